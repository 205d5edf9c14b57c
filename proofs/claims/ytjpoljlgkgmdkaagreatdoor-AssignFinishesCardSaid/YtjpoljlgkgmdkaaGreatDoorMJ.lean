/-
  The walks of the reference's Place and Path.
-/
import Derived.RangeFuncNested
import Derived.RangeFuncBound
import Derived.RangeFuncCalls
import Derived.RangeFuncLeaves
import Derived.Shelf.RegionOpen
import Derived.OwnWalkIn
import Derived.TacticsInMore
import Derived.LoopNIn
import Derived.LoopIn
import Derived.Lib.BufferMore
import Derived.Test.YtjpoljlgkgmdkaaGreatDoorMVD
import Derived.Lib.ConvBytes
import Derived.Lib.Walk
import Derived.Lib.AtoiErrMem
import Derived.Laws.Strings3
import Derived.Laws.Closers25
import Derived.Laws.Closers25b
set_option linter.unusedSimpArgs false
set_option linter.unusedVariables false





namespace Go.Cold
open Go Go.RowKit Go.Proofs.YtjpoljlgkgmdkaaGreatDoor
open Go.Proofs hiding intOf
theorem pathS_size {xs:List ByteArray} (hn:xs≠[]):(joinB xs).size+1=(pathS xs).size:=by
 rw [pathS_join hn,toB_size,List.length_cons,ba_size]
set_option maxRecDepth 100000 in
theorem RPlace_any (A:Option Addr) (c:Nat) (L:List Dev) (n:Int) (w:World) (B:Nat) (hB:B≤w.heap.size) (hx:Sl w B A c L) (hv:VT L) (hn:okI n):Calls Tryz.prog 50 #[.agg #[.slice A L.length c],.int .i64 n] w fun e w'=>e=.returned (.string (strF L n))∧Below w.heap.size w w':=by
 have R0:=hx.1;have E0:=hx.2.1;unfold maxLen at E0;have HX:=Lh_ hx;have HB:=Lh_ hB;have O:=Lh_ hv;have HN:=Lh_ hn;clear hx hB hv hn;go_enter Tryz.func50,Tryz.ntmps50;go_upto_region 1 with fail
 obtain ⟨w1,U,H,Q,G⟩:=bx_ w [.slice A L.length c] 47;try simp only [U]
 have H0:=Lh_ (show w.heap.size≤w1.heap.size from H.size);have F:=Lh_ H;clear U H;try rw [← Q.out]
 have A0:=G.out.1 0 _ rfl;go_wp2_with fail;refine (ROrigin_any A c L n _ B (Nat.le_trans HB.out F.out.size) (HX.out.keep (F.out.mono HB.out)) (by have:=O.out.size;omega) HN.out).mono ?_;rintro e w2 ⟨C,v,rfl,E⟩;clear A0;have I0:=Lh_ (show w1.heap.size≤w2.heap.size from C.size);have J:=tb_ F C;have F0:=kb_ G C;clear C;rw [chainO_org O.out.wf] at E;have T:=str_size (fun d hd=>(O.out.small d hd).1) O.out.size n;have N:=strF_eq L n;have R:=org_len O.out.wf n;obtain ⟨xs,hxs⟩:∃ z,orgF L n=z:=⟨_,rfl⟩;rw [hxs] at E N R;obtain ⟨A5,c5,rfl,I⟩:=E.sl;have Q0:=I.1;have C0:=I.2.1;unfold maxLen at C0;have D0:=O.out.size;have Y:=Lh_ I;have Z:=Lh_ T;have K:=Lh_ N;have W:=Lh_ (show xs.length≤4294967280 by omega);clear E I hxs T N R D0;by_cases h0:0<xs.length
 ·
  have i1:(0:Int)<(xs.length:Int):=by omega
  have M:xs≠[]:=by intro h;rw [h] at h0;simp at h0
  have B0:=pathS_size M;have S:=pathS_join M;have V:=Lh_ (show (joinB xs).size≤4294967280 by have:=Z.out;rw [K.out] at this;omega);have X:=Lh_ S;clear B0 S M h0;go_wp2_with fail;refine (RJoin_any A5 c5 xs _ Y.out V.out W.out).mono ?_;rintro e w3 ⟨rfl,D⟩;have J0:=Lh_ (show w2.heap.size≤w3.heap.size from D.size);have P:=tb_ J D;have T0:=kb_ F0 D;clear D;rw [← X.out,← K.out];go_wp2;go_ret;exact ⟨by try rfl,P.out⟩
 have i1:¬ (0:Int)<(xs.length:Int):=by omega
 have HE:=Lh_ (show strF L n=⟨#[]⟩ by rw [K.out,List.eq_nil_of_length_eq_zero (by omega:xs.length=0)];rfl);clear h0;go_wp2;go_ret;exact ⟨by rw [HE.out];try rfl,J.out⟩
theorem tape_new {w:World} {A:Option Addr} {c:Nat} {xs:List Int} (h:Sl w w.heap.size A c xs):TapeAt (w.alloc (.cells #[.slice A xs.length c,.int .i64 0] 25)) w.heap.size w.heap.size xs 0:=by
 refine ⟨A,c,?_,?_,fun j=>World.frozen?_alloc_at _ _ _ _ rfl,h.keep ((Below.refl _ _).alloc (Nat.le_refl _) _),Nat.le_refl _,by simp⟩ <;> (rw [World.cell?_alloc_at _ _ _ _ rfl];rfl)
theorem notG_of {w:World} (h:Ok w):NotG w.heap.size:=by
 obtain ⟨m,A⟩:=h;have:=block_lt_of_cell A;intro e;rw [← e] at this;exact absurd this (Nat.lt_irrefl _)
theorem OwnsS.attr {F F':Nat→Prop} {w:World} {base:Nat} {e:TypeId} {v:Value} {xs:List Attr} (h:OwnsS F w base e v xs):OwnsS F' w base e v xs:=by
 obtain ⟨A,B,C,D⟩:=h;exact ⟨A,B,C,fun i x cs hx hcs=>D i x cs hx hcs⟩
theorem owns_made (F:Nat→Prop) (w:World) {base:Nat} (T:TypeId) (α:Type) [RepS α] (hb:base≤w.heap.size):OwnsS F (w.alloc (.cells #[] T)) base T (.slice (some ⟨w.heap.size,0,none⟩) 0 0) ([]:List α):=by
 refine ⟨[],⟨by simp,.inr ⟨w.heap.size,0,#[],rfl,hb,?_,Nat.le_refl _,by unfold maxLen;omega,by simp,by simp⟩⟩,rfl,fun i x cs h=>by simp at h⟩;show (w.heap.push _)[w.heap.size]? = _
 exact Array.getElem?_push_size
theorem SlS.set10 {α:Type} [RepS α] {w:World} {A:Option Addr} {c g:Nat} {xs:List α} {S:Nat→Prop} (h:SlS w S A c xs) (hS:∀ x,S x→x≠g) (v0 v1 v2 v3 v4 v5 v6 v7 v8 v9:Value) :
  SlS ((((((((((w.setCell ⟨g,0,none⟩ v0).setCell ⟨g,1,none⟩ v1).setCell ⟨g,2,none⟩ v2).setCell ⟨g,3,none⟩ v3).setCell ⟨g,4,none⟩ v4).setCell ⟨g,5,none⟩ v5).setCell ⟨g,6,none⟩ v6).setCell ⟨g,7,none⟩ v7).setCell ⟨g,8,none⟩ v8).setCell ⟨g,9,none⟩ v9) S A c xs :=
 (((((((((h.set_ hS v0).set_ hS v1).set_ hS v2).set_ hS v3).set_ hS v4).set_ hS v5).set_ hS v6).set_ hS v7).set_ hS v8).set_ hS v9
set_option maxRecDepth 100000 in
theorem Clone_any (A:Option Addr) (c:Nat) (ys:List Attr) (w:World) (B:Nat) (hB:B≤w.heap.size) (hx:Sl w B A c ys) (hl:ys.length≤1000000):Calls Tryz.prog 70 #[.slice A ys.length c] w fun e w'=>Below w.heap.size w w'∧∃ v,e=.returned v∧OwnsS (fun _=>False) w' w.heap.size 53 v ys:=by
 have J:=hx.1;have G:=hx.2.1;unfold maxLen at G;have L:=Lh_ hx;have H:=Lh_ hB;have K:=Lh_ hl;clear hx hB hl;rcases A with _ | A
 ·
  have O:ys=[]:=by
    rcases ys with _ | ⟨y,r⟩
    · rfl
    obtain ⟨b,o,e,_⟩:=L.out.2.2 (by simp);cases e
  subst O;go_enter Tryz.func70,Tryz.ntmps70;have M:=fun W=>Lib.run_eql_slice_nil_nil (P:=Tryz.prog) W 0 c Tryz.underlying26
  go_wp2;go_ret;exact ⟨Below.refl _ _,.slice none 0 0,by try rfl,OwnsS.nil_ _ _ _ _⟩
 go_enter Tryz.func70,Tryz.ntmps70;have M:=fun W=>Lib.run_eql_slice_some_nil (P:=Tryz.prog) W A ys.length c Tryz.underlying26
 go_upto_region 3 with fail
 have D:=Lh_ (owns_made (fun x=>x<B) w (base:=w.heap.size) 53 Attr (Nat.le_refl _));have F:Below w.heap.size w (w.alloc (.cells #[] 53)):=(Below.refl _ _).alloc (Nat.le_refl _) _;have C:=Lh_ F;clear F;have E:=Lh_ (show SlS (w.alloc (.cells #[] 53)) (fun b=>b<B∧b<(w.alloc (.cells #[] 53)).heap.size∧(Value.slice (some ⟨w.heap.size,0,none⟩) 0 0).ownBlock≠some b) (some A) c ys from (SlS_iff.1 (L.out.keep (C.out.mono H.out))).mono (fun b hb=>⟨hb,by have:=H.out;have:=C.out.size;omega,fun e=>by have Q:w.heap.size=b:=Option.some.inj e;have:=H.out;have S:b<B:=hb;omega⟩) (fun _ _ _ _ hu=>hu));clear J G M;go_wp2_with (at_builtin;go_must (refine wpList_app rfl _ _ rfl (.slice (some ⟨w.heap.size,0,none⟩) 0 0) _ rfl rfl (run_appL E_attr _ _ [] D.out (some A) c ys (.inl E.out) (by have:=K.out;simp;unfold maxLen;omega) (by have:=K.out;simp;omega) C.out.size) ?_);intro v1 w1 hR_;have I:=Lh_ hR_;clear hR_);obtain ⟨N,R,-⟩:=I.out;rw [List.nil_append] at N;go_ret;exact ⟨C.out.grown R C.out.size (fun q hq=>by have Q:w.heap.size=q:=Option.some.inj hq;omega),v1,by try rfl,N.attr⟩
set_option maxRecDepth 100000 in
set_option maxHeartbeats 4000000 in
theorem copied_any (d:Dev) (A2:Option Addr) (c2:Nat) (w:World) (B:Nat) (hB:B≤w.heap.size) (hx:Sl w B A2 c2 d.attrs) (hl:d.attrs.length≤1000000):Calls Tryz.prog 147 #[.agg #[.int .i64 d.idx,.int .i64 d.par,.string d.nm,.string d.orig,.string d.sub,.string d.drv,.string d.ali,.int .i64 d.kind,.int .i64 d.num,.slice A2 d.attrs.length c2]] w fun e w'=>Below w.heap.size w w'∧∃ (A3:Option Addr) (c3:Nat),e=.returned (.agg #[.int .i64 d.idx,.int .i64 d.par,.string d.nm,.string d.orig,.string d.sub,.string d.drv,.string d.ali,.int .i64 d.kind,.int .i64 d.num,.slice A3 d.attrs.length c3])∧SlS w' (fun b=>w.heap.size≤b∧b<w'.heap.size) A3 c3 d.attrs:=by
 have B1:=(zero_of_info (P:=Tryz.prog) (t:=84) info_dev2).1;have HX:=Lh_ hx;have HB:=Lh_ hB;have HL:=Lh_ hl;clear hx hB hl;go_enter Tryz.func147,Tryz.ntmps147;go_upto_region 1 with fail
 obtain ⟨w1,M0,H,A,J⟩:=bx_ w [.int .i64 d.idx,.int .i64 d.par,.string d.nm,.string d.orig,.string d.sub,.string d.drv,.string d.ali,.int .i64 d.kind,.int .i64 d.num,.slice A2 d.attrs.length c2] 84;try simp only [M0]
 have W0:=Lh_ (show w.heap.size≤w1.heap.size from H.size);have X:=Lh_ H;clear M0 H;try rw [← A.out]
 obtain ⟨w2,N0,F,E,D⟩:=bx_ w1 [.int .i64 0,.int .i64 0,.string ByteArray.empty,.string ByteArray.empty,.string ByteArray.empty,.string ByteArray.empty,.string ByteArray.empty,.int .i64 0,.int .i64 0,.slice none 0 0] 84;try simp only [N0]
 have X0:=Lh_ (show w1.heap.size≤w2.heap.size from F.size);have G:=tb_ X F;have W:=kb_ J F;clear N0 F;try rw [← E.out]
 obtain ⟨Z,A0,B0,C0,D0,E0,F0,G0,H0,I0⟩:=s10_ W.out.1;have J0:=W.out.2.1;obtain ⟨L,M,N,O,Q,R,S,T,U,V⟩:=s10_ D.out.1;have K:=D.out.2.1;go_wp2_with fail;refine (Clone_any A2 c2 d.attrs _ B (Nat.le_trans HB.out G.out.size) (HX.out.keep (G.out.mono HB.out)) HL.out).mono ?_;rintro e w3 ⟨C,v,rfl,I⟩;clear Z A0 B0 C0 D0 E0 F0 G0 H0 I0 J0 L M N O Q R S T U V K;have Y0:=Lh_ (show w2.heap.size≤w3.heap.size from C.size);have Y:=tb_ G C;have K0:=kb_ W C;have O0:=kb_ D C;clear C;obtain ⟨Z,A0,B0,C0,D0,E0,F0,G0,H0,I0⟩:=s10_ K0.out.1;have J0:=K0.out.2.1;obtain ⟨L,M,N,O,Q,R,S,T,U,V⟩:=s10_ O0.out.1;have K:=O0.out.2.1;obtain ⟨A3,c3,rfl,L0⟩:=I.cs;have T0:=Lh_ (show SlS w3 (fun b=>w2.heap.size≤b∧b<w3.heap.size) A3 c3 d.attrs from L0.mono (fun b hb=>⟨hb.1.elim (fun h=>h.elim) id,hb.2⟩) (fun _ _ _ _ hu=>hu));clear I L0;have R0:=Lh_ (show ∀ x,(w2.heap.size≤x∧x<w3.heap.size)→x≠w.heap.size from fun x hx=>by have:=A.out;have:=E.out;omega);have S0:=Lh_ (show ∀ x,(w2.heap.size≤x∧x<w3.heap.size)→x≠w1.heap.size from fun x hx=>by have:=E.out;omega);have U0:w.heap.size≠w1.heap.size:=by have:=A.out;omega
 go_wp2;refine bodyPost_ret (v:=.agg #[.int .i64 d.idx,.int .i64 d.par,.string d.nm,.string d.orig,.string d.sub,.string d.drv,.string d.ali,.int .i64 d.kind,.int .i64 d.num,.slice A3 d.attrs.length c3]) (by simp [results,Tryz.results147,go_sem,L,M,N,O,Q,R,S,T,U,V,K,U0]) rfl ⟨below10 (Y.out.setCell (Nat.le_refl _) _) (by have:=A.out;omega) _ _ _ _ _ _ _ _ _ _,A3,c3,rfl,((T0.out.set_ R0.out _).set10 S0.out _ _ _ _ _ _ _ _ _ _).mono (fun b hb=>⟨by have:=A.out;have:=E.out;omega,by simpa using hb.2⟩) (fun _ _ _ _ hu=>hu)⟩
theorem find_idx2 {p:Dev→Bool}:∀ L:List Dev,(idxInt p L = -1∧L.find? p=none)∨∃ (k:Nat) (y:Dev),idxInt p L=(k:Int)∧L[k]? = some y∧L.find? p=some y
 | []=>.inl ⟨rfl,rfl⟩
 | d :: r=>by
  by_cases hd:p d=true
  · exact .inr ⟨0,d,by unfold idxInt;rw [List.findIdx?_cons,if_pos hd],rfl,by rw [List.find?_cons_of_pos hd]⟩
  have hd2:p d=false:=by simpa using hd
  have A:∀ i,r.findIdx? p=i→idxInt p (d :: r)=match i with | some j=>((j+1:Nat):Int) | none=>-1:=by
   intro i hri;unfold idxInt;rw [List.findIdx?_cons,if_neg (by simp [hd2]),hri];cases i <;> rfl
  rcases find_idx2 r with ⟨h1,h2⟩ | ⟨k,y,h1,h2,h3⟩
  ·
   left
   refine ⟨?_,by rw [List.find?_cons_of_neg (by simp [hd2]),h2]⟩;cases hri:r.findIdx? p with
   | none=>rw [A _ hri]
   | some j=>unfold idxInt at h1;rw [hri] at h1;simp only at h1;omega
  right
  refine ⟨k+1,y,?_,by simpa using h2,by rw [List.find?_cons_of_neg (by simp [hd2]),h3]⟩;cases hri:r.findIdx? p with
  | none=>unfold idxInt at h1;rw [hri] at h1;simp only at h1;omega
  | some j =>
   rw [A _ hri];unfold idxInt at h1;rw [hri] at h1;simp only at h1 ⊢;omega
def FirstP (p:Dev→Bool) (L:List Dev) (w:World) (e:Ending) (w':World):Prop:=Below w.heap.size w w'∧∃ (d:Dev) (A3:Option Addr) (c3:Nat),d=(L.find? p).getD zeroD∧e=.returned (.tuple #[.agg #[.int .i64 d.idx,.int .i64 d.par,.string d.nm,.string d.orig,.string d.sub,.string d.drv,.string d.ali,.int .i64 d.kind,.int .i64 d.num,.slice A3 d.attrs.length c3],.bool (L.find? p).isSome])∧devOk d∧SlS w' (fun b=>w.heap.size≤b∧b<w'.heap.size) A3 c3 d.attrs
def byIdx (n:Int) (d:Dev):Bool:=decide (d.idx=n)
set_option maxRecDepth 100000 in
set_option maxHeartbeats 4000000 in
theorem first_any (A:Option Addr) (c:Nat) (L:List Dev) (f:FuncId) (caps:Array Value) (Q:Dev→Prop) (p:Dev→Bool) (w:World) (B:Nat) (hB:B≤w.heap.size) (hx:Sl w B A c L) (hp:PredD f caps w B Q p) (hq:∀ d ∈ L,Q d) (hl:∀ d ∈ L,d.attrs.length≤1000000) :
  Calls Tryz.prog 117 #[.agg #[.slice A L.length c],.func (.func f) #[] caps] w (FirstP p L w):=by
 have Y0:=(zero_of_info (P:=Tryz.prog) (t:=84) info_dev2).1;have Y1:=hx.1;have X0:=hx.2.1;unfold maxLen at X0;have HX:=Lh_ hx;have HB:=Lh_ hB;have HP:=Lh_ hp;have HQ:=Lh_ hq;have HL:=Lh_ hl;clear hx hB hp hq hl;go_enter Tryz.func117,Tryz.ntmps117;go_upto_region 1 with fail
 obtain ⟨w1,L0,Z,H,D0⟩:=bx_ w [.slice A L.length c] 47;try simp only [L0]
 have B1:=Lh_ (show w.heap.size≤w1.heap.size from Z.size);have F0:=Lh_ Z;clear L0 Z;try rw [← H.out]
 obtain ⟨w2,M0,I,X,E⟩:=bx_ w1 [.int .i64 0,.int .i64 0,.string ByteArray.empty,.string ByteArray.empty,.string ByteArray.empty,.string ByteArray.empty,.string ByteArray.empty,.int .i64 0,.int .i64 0,.slice none 0 0] 84;try simp only [M0]
 have C1:=Lh_ (show w1.heap.size≤w2.heap.size from I.size);have F:=tb_ F0 I;have O0:=kb_ D0 I;clear M0 I;try rw [← X.out]
 have B0:=O0.out.1 0 _ rfl;obtain ⟨K,M,N,O,R,S,T,U,V,W⟩:=s10_ E.out.1;have J:=E.out.2.1;go_wp2_with fail;refine (IndexFuncD_any A c L f caps Q p _ B (Nat.le_trans HB.out F.out.size) (HX.out.keep (F.out.mono HB.out)) (HP.out.next F.out) HQ.out).mono ?_;rintro e w3 ⟨rfl,C⟩;clear B0 K M N O R S T U V W J;have C0:=Lh_ (show w2.heap.size≤w3.heap.size from C.size);have G:=tb_ F C;have P0:=kb_ O0 C;have E0:=kb_ E C;clear C;have B0:=P0.out.1 0 _ rfl;obtain ⟨K,M,N,O,R,S,T,U,V,W⟩:=s10_ E0.out.1;have J:=E0.out.2.1;have Y0:=(zero_of_info (P:=Tryz.prog) (t:=84) info_dev2).1;rcases find_idx2 (p:=p) L with ⟨h1,h2⟩ | ⟨k,y,h1,h2,h3⟩
 ·
  rw [h1];have HF:=Lh_ h2;clear h1 h2;go_wp2;refine bodyPost_ret (v:=.tuple #[.agg #[.int .i64 0,.int .i64 0,.string ByteArray.empty,.string ByteArray.empty,.string ByteArray.empty,.string ByteArray.empty,.string ByteArray.empty,.int .i64 0,.int .i64 0,.slice none 0 0],.bool false]) (by simp [results,Tryz.results117,go_sem,K,M,N,O,R,S,T,U,V,W,J]) rfl ⟨below10 G.out (by have:=H.out;omega) _ _ _ _ _ _ _ _ _ _,zeroD,none,0,by rw [HF.out];rfl,by rw [HF.out];rfl,zero_ok,SlS.nil_⟩
 have hk:k<L.length:=(List.getElem?_eq_some_iff.1 h2).1;have J0:L[k]'hk=y:=(List.getElem?_eq_some_iff.1 h2).2;rw [h1];have HF:=Lh_ h3;have HM:=Lh_ (List.mem_of_getElem? h2);clear h1 h2 h3;have i1:(k:Int)<(L.length:Int):=by omega
 have i2:(0:Int)≤(k:Int):=by omega
 have i3:¬ (k:Int)<0:=by omega
 obtain ⟨b3,o3,rfl,W0,A2,c2,A0,Y,I0⟩:=(HX.out.keep (G.out.mono HB.out)).dev hk;rw [J0] at A0 Y I0;have U0:=Lh_ A0;have S0:=Lh_ Y;obtain ⟨d0,d1,d2,d3,d4,d5,d6,d7,d8,d9⟩:=I0;clear A0 Y J0 W0;go_wp2_with fail;refine (copied_any y A2 c2 _ B (Nat.le_trans HB.out G.out.size) S0.out (HL.out y HM.out)).mono ?_;rintro e w4 ⟨D,A3,c3,rfl,K0⟩;clear B0 K M N O R S T U V W J;have D1:=Lh_ (show w3.heap.size≤w4.heap.size from D.size);have G0:=tb_ G D;have Z0:=kb_ P0 D;have N0:=kb_ E0 D;clear D;clear d0 d1 d2 d3 d4 d5 d6 d7 d8 d9;have B0:=Z0.out.1 0 _ rfl;obtain ⟨K,M,N,O,R,S,T,U,V,W⟩:=s10_ N0.out.1;have J:=N0.out.2.1;have V0:=Lh_ K0;clear K0;have T0:=Lh_ (show ∀ x,(w3.heap.size≤x∧x<w4.heap.size)→x≠w1.heap.size from fun x hx=>by have:=X.out;have:=C0.out;omega);go_wp2;refine bodyPost_ret (v:=.tuple #[.agg #[.int .i64 y.idx,.int .i64 y.par,.string y.nm,.string y.orig,.string y.sub,.string y.drv,.string y.ali,.int .i64 y.kind,.int .i64 y.num,.slice A3 y.attrs.length c3],.bool true]) (by simp [results,Tryz.results117,go_sem,K,M,N,O,R,S,T,U,V,W,J]) rfl ⟨below10 G0.out (by have:=H.out;omega) _ _ _ _ _ _ _ _ _ _,y,A3,c3,by rw [HF.out];rfl,by rw [HF.out];rfl,U0.out,((V0.out.set10 T0.out _ _ _ _ _ _ _ _ _ _).mono (fun b hb=>⟨by have:=H.out;have:=X.out;have:=C0.out;omega,by simpa using hb.2⟩) (fun _ _ _ _ hu=>hu))⟩
set_option maxRecDepth 100000 in
theorem find1_pred (g:Nat) (n:Int) (w:World) (B:Nat) (hv:BoxL w g [.int .i64 n]) :
  PredD 118 #[.pointer (some ⟨g,0,none⟩)] w B (fun _=>True) (byIdx n):=by
 refine ⟨enters_of Tryz.func118 (by kernel_rfl) rfl,fun x A2 c2 W hxo hat hq hW=>?_⟩;have I:=Lh_ (hv.kept (grown_none hW) (fun e=>by cases e));clear hv hxo hat hq hW;go_enter Tryz.func118,Tryz.ntmps118;go_upto_region 1 with fail
 obtain ⟨L,F,A,E,C⟩:=bx_ W [.int .i64 x.idx,.int .i64 x.par,.string x.nm,.string x.orig,.string x.sub,.string x.drv,.string x.ali,.int .i64 x.kind,.int .i64 x.num,.slice A2 x.attrs.length c2] 84;try simp only [F]
 have H:=Lh_ (show W.heap.size≤L.heap.size from A.size);have D:=Lh_ A;have G:=kb_ I A;clear F A;try rw [← E.out]
 have J:=G.out.1 0 _ rfl;have K:=C.out.1 0 _ rfl;go_wp2;go_ret;exact ⟨by try rfl,D.out⟩
set_option maxRecDepth 100000 in
set_option maxHeartbeats 4000000 in
theorem TFind_any (A:Option Addr) (c:Nat) (L:List Dev) (n:Int) (w:World) (B:Nat) (hB:B≤w.heap.size) (hx:Sl w B A c L) (hl:∀ d ∈ L,d.attrs.length≤1000000) :
  Calls Tryz.prog 67 #[.agg #[.slice A L.length c],.int .i64 n] w (FirstP (byIdx n) L w):=by
 have H1:=(zero_of_info (P:=Tryz.prog) (t:=84) info_dev2).1;have HX:=Lh_ hx;have HB:=Lh_ hB;have HL:=Lh_ hl;clear hx hB hl;go_enter Tryz.func67,Tryz.ntmps67;go_upto_region 1 with fail
 obtain ⟨w1,W,K,G,O⟩:=bx_ w [.slice A L.length c] 47;try simp only [W]
 have X0:=Lh_ (show w.heap.size≤w1.heap.size from K.size);have S:=Lh_ K;clear W K;try rw [← G.out]
 obtain ⟨w2,X,E,H,N⟩:=bx_ w1 [.int .i64 n] 3;try simp only [X]
 have Y0:=Lh_ (show w1.heap.size≤w2.heap.size from E.size);have T:=tb_ S E;have S0:=kb_ O E;clear X E;try rw [← H.out]
 obtain ⟨w3,Y,D,I,J⟩:=bx_ w2 [.int .i64 0,.int .i64 0,.string ByteArray.empty,.string ByteArray.empty,.string ByteArray.empty,.string ByteArray.empty,.string ByteArray.empty,.int .i64 0,.int .i64 0,.slice none 0 0] 84;try simp only [Y]
 have Z0:=Lh_ (show w2.heap.size≤w3.heap.size from D.size);have F:=tb_ T D;have A0:=kb_ S0 D;have Q:=kb_ N D;clear Y D;try rw [← I.out]
 have R0:=A0.out.1 0 _ rfl;have G0:=Q.out.1 0 _ rfl;have R:=J.out.2.1;go_wp2_with fail;refine (first_any A c L _ _ (fun _=>True) _ _ B (Nat.le_trans HB.out F.out.size) (HX.out.keep (F.out.mono HB.out)) (find1_pred _ n _ B Q.out) (fun _ _=>trivial) HL.out).mono ?_;rintro e w4 ⟨C,d,A3,c3,hd,rfl,M,V⟩;clear R0 G0 R;have A1:=Lh_ (show w3.heap.size≤w4.heap.size from C.size);have U:=tb_ F C;have I1:=kb_ A0 C;have G1:=kb_ Q C;have Z:=kb_ J C;clear C;have HD:=Lh_ hd;have C0:=Lh_ M;have F0:=Lh_ V;clear hd M V;obtain ⟨H0,I0,J0,K0,L0,M0,N0,O0,P0,Q0⟩:=s10_ Z.out.1;have R:=Z.out.2.1;have D0:=Lh_ (show ∀ x,(w3.heap.size≤x∧x<w4.heap.size)→x≠w2.heap.size from fun x hx=>by have:=I.out;omega);obtain ⟨q,hq⟩:∃ q,(L.find? (byIdx n)).isSome=q:=⟨_,rfl⟩;rw [hq];have E0:=Lh_ hq;clear hq;go_wp2;refine bodyPost_ret (v:=.tuple #[.agg #[.int .i64 d.idx,.int .i64 d.par,.string d.nm,.string d.orig,.string d.sub,.string d.drv,.string d.ali,.int .i64 d.kind,.int .i64 d.num,.slice A3 d.attrs.length c3],.bool q]) (by simp [results,Tryz.results67,go_sem,H0,I0,J0,K0,L0,M0,N0,O0,P0,Q0,R]) rfl ⟨below10 U.out (by have:=G.out;have:=H.out;omega) _ _ _ _ _ _ _ _ _ _,d,A3,c3,HD.out,by rw [E0.out],C0.out,((F0.out.set10 D0.out _ _ _ _ _ _ _ _ _ _).mono (fun b hb=>⟨by have:=G.out;have:=H.out;have:=I.out;omega,by simpa using hb.2⟩) (fun _ _ _ _ hu=>hu))⟩
theorem idx_casesT (p:ByteArray→Bool) (xs:List ByteArray):(idxInt p xs = -1∧∀ x ∈ xs,p x=false)∨∃ (i:Nat) (x:ByteArray),idxInt p xs=(i:Int)∧xs[i]? = some x∧p x=true∧∀ y ∈ xs.take i,p y=false:=by
 unfold idxInt;cases h:xs.findIdx? p with
 | none=>exact .inl ⟨rfl,List.findIdx?_eq_none_iff.1 h⟩
 | some i =>
  obtain ⟨C,A,B⟩:=List.findIdx?_eq_some_iff_getElem.1 h;refine .inr ⟨i,xs[i],rfl,List.getElem?_eq_getElem C,A,fun y hy=>?_⟩;obtain ⟨j,D,rfl⟩:=List.getElem_of_mem hy;rw [List.length_take] at D;rw [List.getElem_take];exact Bool.eq_false_iff.2 (B j (by omega))
theorem DelSt.leT {α:Type} [RepS α] {F:Nat→Prop} {w W:World} {base:Nat} {T:TypeId} {g cap:Nat} {xs:List α} {p:α→Bool} {i j:Nat} (h:DelSt F base T g cap w xs p i j W):i<j∧j≤xs.length∧xs.length≤cap:=by
 obtain ⟨K,B,A,C,G,H,I,J,D,E⟩:=h;have:=C.le;exact ⟨D,E,by omega⟩
theorem DelSt.belowT {α:Type} [RepS α] {F:Nat→Prop} {w W W':World} {base:Nat} {T:TypeId} {g cap:Nat} {xs:List α} {p:α→Bool} {i j:Nat} (h:DelSt F base T g cap w xs p i j W) (hb:Below W.heap.size W W'):DelSt F base T g cap w xs p i j W':=by
 obtain ⟨K,B,A,C,D,E,G,H,I,J⟩:=h;exact ⟨K,B,A,C.below hb,D,E,G,grown_seq H (grown_wide (grown_none hb)),I,J⟩
theorem DelSt.grownT {α:Type} [RepS α] {F:Nat→Prop} {w W:World} {base:Nat} {T:TypeId} {g cap:Nat} {xs:List α} {p:α→Bool} {i j:Nat} (h:DelSt F base T g cap w xs p i j W):w.grownBy W (some g):=by
 obtain ⟨K,B,A,D,E,G,H,C,I,J⟩:=h;exact C
theorem setCells1 (w:World) (g o:Nat) (v:Value):w.setCells g o [v]=w.setCell ⟨g,o,none⟩ v:=rfl
section
open Go.Shelf
theorem overlapsT (w:World) (b1 o1 b2 o2 la ca lb cb:Nat) (hne:b1≠b2) (c1 c2:Array Value) (h1:w.heap[b1]? = some (.cells c1 9 (0,0))) (h2:w.heap[b2]? = some (.cells c2 9 (0,0))) (hk:c2.size≠0) :
  (callFunc (155) #[.slice (some ⟨b1,o1,none⟩) la ca,.slice (some ⟨b2,o2,none⟩) lb cb]).run Tryz.prog w=.ok (.value (.bool false)) w:=by
 have C:∀ w,(Go.sizeOf 9).run Tryz.prog w=.ok 1 w:=fun w=>by
  obtain ⟨F,z,B,C,A,D,E⟩:=E_txt.info;have A:F.size=1:=A;simp [sizeOf,typeInfo,B,A]
 rw [run_callFunc_extern Tryz.func155 (by kernel_rfl) (by kernel_rfl) (by kernel_rfl) (e:=Extern.SlicesOverlaps.overlaps #[27,27] #[4]) (by kernel_rfl),
  Lib.run_overlaps_apart w 27 4 9 E_txt.sl 1 C ⟨b1,o1,none⟩ ⟨b2,o2,none⟩ la ca lb cb hne 9 9 c1.size c2.size (by simp [World.shape?,h1]) (by simp [World.shape?,h2]) hk (by simp [World.frozen?,h1]) (by simp [World.frozen?,h1])]
 rfl
set_option maxHeartbeats 4000000 in
set_option maxRecDepth 100000 in
theorem SlInsertT_any (F:Nat→Prop) (base:Nat) (v:Value) (xs:List ByteArray) (i:Nat) (y:ByteArray) (cs:List Value) (gv:Nat) (w:World) (ho:OwnsS F w base 9 v xs) (hi:i≤xs.length) (hl:xs.length≤1000)
  (hgv:v.ownBlock≠some gv) (hc:w.heap[gv]? = some (.cells cs.toArray 9 (0,0))) (hr:RepS.rdS w (fun b=>F b∧b<w.heap.size∧v.ownBlock≠some b) y cs) (hb:base≤w.heap.size) :
  Calls Tryz.prog 127 #[v,.int .i64 i,.slice (some ⟨gv,0,none⟩) 1 1] w fun e w'=>∃ v',e=.returned v'∧OwnsS F w' base 9 v' (xs.take i ++ y :: xs.drop i)∧w.grownBy w' v.ownBlock∧∀ k,v'.ownBlock=some k→v.ownBlock=some k∨w.heap.size≤k:=by
 have C0:∀ (j:Nat) u,cs[j]? = some u→w.cell? ⟨gv,j,none⟩=some u:=fun j u hu=>by
  rw [cell_of_row w gv j cs.toArray _ (0,0) hc];simpa using hu
 have Z:=Lh_ hr;have HC:=Lh_ C0;have Y:=Lh_ hc;have J1:=Lh_ hgv;have HO:=Lh_ ho;have HB:=Lh_ hb;clear hr C0 hc hb;go_enter Tryz.func127,Tryz.ntmps127;by_cases hin:i=xs.length
 ·
  subst hin
  obtain ⟨A,c,rfl,W⟩:=ho.cs;have H1:=W.1;have H0:=W.2.1;unfold maxLen at H0;clear ho hgv W;by_cases hcn:c=xs.length
  ·
   subst hcn
   go_wp2_with (at_builtin;go_must (refine wpList_app rfl _ _ rfl _ _ rfl rfl (run_app1 E_txt _ _ xs HO.out gv y cs HC.out Z.out (by unfold maxLen;omega) (by omega) HB.out) ?_);rintro v2 w9 ⟨E,B,D⟩;have J:=Lh_ E;have H:=Lh_ B;have I:=Lh_ D;clear E B D);go_ret;exact ⟨v2,rfl,by rw [List.take_length,List.drop_length];exact J.out,H.out,I.out⟩
  go_wp2_with (at_builtin;go_must (refine wpList_app rfl _ _ rfl _ _ rfl rfl (run_app1 E_txt _ _ xs HO.out gv y cs HC.out Z.out (by unfold maxLen;omega) (by omega) HB.out) ?_);rintro v2 w9 ⟨E,B,D⟩;have J:=Lh_ E;have H:=Lh_ B;have I:=Lh_ D;clear E B D);go_ret;exact ⟨v2,rfl,by rw [List.take_length,List.drop_length];exact J.out,H.out,I.out⟩
 rcases ho.opened with ⟨-,rfl⟩ | ⟨g,cap,cur,css,rfl,hrow⟩
 ·
  have h0:([]:List ByteArray).length=0:=rfl
  omega
 have G0:gv≠g:=fun e=>hgv (by rw [e];rfl)
 have C:=Lh_ hrow;have X0:=Z.out;have A0:=Lh_ (show RepS.rdS w (fun b=>F b∧b<w.heap.size∧b≠g) y cs from RepS.mono (fun b hb=>⟨hb.1,hb.2.1,fun e=>hb.2.2 (by rw [e];rfl)⟩) (fun _ _ _ _ hu=>hu) Z.out);have Q1:=hrow.le;have F0:=hrow.lim;unfold maxLen at F0;have U0:i<xs.length:=by omega
 have A2:IntKind.i64.wrap ((i:Int)+1)=((i+1:Nat):Int):=by rw [IntKind.wrap_i64];omega
 have B2:IntKind.i64.wrap ((xs.length:Int)+1)=((xs.length+1:Nat):Int):=by rw [IntKind.wrap_i64];omega
 have R1:¬ ((i:Int)=(xs.length:Int)):=by omega
 clear ho hgv X0 hrow Z HO;by_cases hroom:xs.length+1≤cap
 ·
  obtain ⟨L,O,Q,S,T⟩:=insert_room (w:=w.drew) E_txt C.out.drew (i:=i) (by omega) hroom gv G0 HC.out (RepS.mono (w:=w) (fun _ h=>h) (fun _ _ _ _ h=>h) A0.out)
  have W0:∀ lb cb,(callFunc (155) #[.slice (some ⟨gv,0,none⟩) 1 1,.slice (some ⟨g,i+1,none⟩) lb cb]).run Tryz.prog w=.ok (.value (.bool false)) w:=fun lb cb =>
   overlapsT w gv 0 g (i+1) 1 1 lb cb G0 _ cur Y.out C.out.heap (by rw [C.out.size];show cap * 1≠0;omega)
  simp only [show Rep.size ByteArray=1 from rfl,Nat.mul_one] at Q S T;have K1:=Lh_ (show ∀ ty dc sc,(Builtin.copy_ #[27,27] ty #[.slice (some ⟨g,i+1,none⟩) (xs.length+1 - (i+1)) dc,.slice (some ⟨g,i,none⟩) (xs.length+1 - i) sc]).run Tryz.prog w.drew=.ok (goInt ((xs.length - i:Nat):Int)) (w.drew.setRow g L) from fun ty dc sc=>Q ty dc sc _ _ E_txt.sl);have K2:=Lh_ (show ∀ ty dc sc,(Builtin.copy_ #[27,27] ty #[.slice (some ⟨g,i,none⟩) (xs.length+1 - i) dc,.slice (some ⟨gv,0,none⟩) 1 sc]).run Tryz.prog (w.drew.setRow g L)=.ok (goInt 1) (w.drew.setRow g O) from fun ty dc sc=>S ty dc sc _ _ E_txt.sl);have K3:=Lh_ T;clear Q S T;have V0:¬ ((cap:Int)<((xs.length+1:Nat):Int)):=by omega
  have S1:((xs.length+1:Nat):Int)≤(cap:Int):=by omega
  have T1:((i+1:Nat):Int)≤((xs.length+1:Nat):Int):=by omega
  have U1:(i:Int)≤((xs.length+1:Nat):Int):=by omega
  have V1:¬ cap=i+1:=by omega
  have A1:((i:Int)+1).toNat=i+1:=by omega
  have B1:(0:Int)≤(i:Int)+1:=by omega
  have C1:(i:Int)+1≤(xs.length:Int)+1:=by omega
  have D1:(i:Int)≤(xs.length:Int)+1:=by omega
  have X:Tryz.prog.follows Departure.mixedOrders=true:=by kernel_rfl
  have X1:¬ cap=i:=by omega
  go_wp2_with (simp only [W0]);go_region_law_o (refine step_copyR (R:=fun v' w'=>w'=w.drew.setRow g L) rfl _ _ rfl (.slice (some ⟨g,i+1,none⟩) (xs.length+1 - (i+1)) (cap - (i+1))) (.slice (some ⟨g,i,none⟩) (xs.length+1 - i) (cap - i)) (by simp [Act.eval,Act.put]) (by simp [Act.eval,Act.put]) ⟨_,_,K1.out _ _ _,rfl⟩ ?_;rintro v' w' rfl)
  go_wp2_with (refine wpList_copyR (R:=fun v' w'=>w'=w.drew.setRow g O) rfl _ _ rfl _ _ rfl rfl ⟨_,_,K2.out _ _ _,rfl⟩ ?_;rintro v' w' rfl);go_ret;exact ⟨.slice (some ⟨g,0,none⟩) (xs.length+1) cap,rfl,by have h:=K3.out.owns;rw [show (xs.take i ++ y :: xs.drop i).length=xs.length+1 by simp;omega] at h;exact h,grown_seq (grown_wide (grown_none (below_drew w))) (grown_setRow w.drew g O),fun k hk=>.inl hk⟩
 obtain ⟨G,L,K,Q,R0,M,Z0,Y0⟩:=insert_grow E_txt C.out U0 (by omega) HB.out (by omega) (by omega) 3 27 .i64 Tryz.underlying3 .i64;obtain ⟨N,hN⟩:∃ z,w.heap.size=z:=⟨_,rfl⟩;have T0:g<w.heap.size:=C.out.lt;have E1:gv<w.heap.size:=(Array.getElem?_eq_some_iff.1 Y.out).1;have P:(xs.take i).length=i:=by rw [List.length_take];omega
 have D0:(xs.drop i).length=xs.length - i:=List.length_drop;have V:∀ b o u,(F b∧b<w.heap.size∧b≠g)→w.cell? ⟨b,o,none⟩=some u→K.cell? ⟨b,o,none⟩=some u:=fun b o u hb hu=>(M.cell (p:=⟨b,o,none⟩) hb.2.1).trans hu
 have U:∀ b,(F b∧b<w.heap.size∧b≠g)→(F b∧b<K.heap.size∧b≠w.heap.size):=fun b hb=>⟨hb.1,by omega,by omega⟩
 obtain ⟨c1,c2,S,T,k4⟩:=insert_new E_txt Y0 (ys:=xs.drop i) (ess:=css.drop i) (by rw [P,D0];omega) gv g (i * 1) (by omega) (by omega) (fun j u hu=>(M.cell (p:=⟨gv,j,none⟩) E1).trans (HC.out j u hu)) (RepS.mono U V A0.out)
  (by rw [List.length_drop,List.length_drop,C.out.len]) (RdL.mono U V (RdL.drop C.out.rd i)) (fun j u hu=>(M.cell (p:=⟨g,i * 1+j,none⟩) T0).trans (C.out.from_ i j u hu))
 simp only [show Rep.size ByteArray=1 from rfl,Nat.mul_one] at Q S T;rw [P,D0] at T;rw [P] at S;rw [hN] at Q S T k4 Z0 M;have E0:(xs.length:Int)+1 - (i:Int)=((xs.length+1 - i:Nat):Int):=by omega
 rw [← E0] at Q;have G1:G≤9223372036854775807:=by have h:=k4.lim;unfold maxLen at h;omega
 have K1:=Lh_ (show ∀ ty,(Builtin.append_ #[27,3] ty #[.slice (some ⟨g,0,none⟩) i cap,.int .i64 ((xs.length:Int)+1 - (i:Int))]).run Tryz.prog w=.ok (.slice (some ⟨N,0,none⟩) (xs.length+1) G) K from fun ty=>Q);have K2:=Lh_ (show ∀ ty dl dc sc,1≤dl→(Builtin.copy_ #[27,27] ty #[.slice (some ⟨N,i,none⟩) dl dc,.slice (some ⟨gv,0,none⟩) 1 sc]).run Tryz.prog K=.ok (goInt 1) (K.setRow N c1) from fun ty dl dc sc h=>S ty dl dc sc _ _ E_txt.sl h);have K3:=Lh_ (show ∀ ty dl dc sc,xs.length - i≤dl→(Builtin.copy_ #[27,27] ty #[.slice (some ⟨N,i+1,none⟩) dl dc,.slice (some ⟨g,i,none⟩) (xs.length - i) sc]).run Tryz.prog (K.setRow N c1).drew=.ok (goInt ((xs.length - i:Nat):Int)) (K.setRow N c2).drew from fun ty dl dc sc h=>T ty dl dc sc _ _ E_txt.sl h);have K4:=Lh_ k4;have L0:=Lh_ M;have I1:=Lh_ R0;clear Q S T k4 M V U E0;have C2:IntKind.i64.wrap ((xs.length:Int)+1 - (i:Int))=(xs.length:Int)+1 - (i:Int):=by rw [IntKind.wrap_i64];omega
 have V0:(cap:Int)<(xs.length:Int)+1:=by omega
 have A1:((i:Int)+1).toNat=i+1:=by omega
 have B1:(0:Int)≤(i:Int)+1:=by omega
 have C1:(i:Int)+1≤(xs.length:Int)+1:=by omega
 have D1:(i:Int)≤(xs.length:Int)+1:=by omega
 have Y1:(i:Int)≤(xs.length:Int):=by omega
 have Z1:(i:Int)≤(cap:Int):=by omega
 have N1:¬ G=i:=by omega
 have O1:¬ G=i+1:=by omega
 have P1:¬ cap=i:=by omega
 have X:Tryz.prog.follows Departure.mixedOrders=true:=by kernel_rfl
 go_wp2_with (first
  | (at_builtin;go_must (refine wpList_appR (R:=fun v' w'=>v'=.slice (some ⟨N,0,none⟩) (xs.length+1) G∧K=w') rfl _ _ rfl _ _ rfl rfl ⟨_,_,K1.out _,rfl,rfl⟩ ?_);rintro v' w' ⟨rfl,rfl⟩)
  | (refine wpList_copyR (R:=fun v' w'=>w'=K.setRow N c1) rfl _ _ rfl _ _ rfl rfl ⟨_,_,K2.out _ _ _ _ (by omega),rfl⟩ ?_;rintro v' w' rfl))
 go_region_law_o (refine step_copyR (R:=fun v' w'=>w'=(K.setRow N c2).drew) rfl _ _ rfl (.slice (some ⟨N,i+1,none⟩) (xs.length+1 - (i+1)) (G - (i+1))) (.slice (some ⟨g,i,none⟩) (xs.length - i) (cap - i)) (by simp [Act.eval,Act.put]) (by simp [Act.eval,Act.put]) ⟨_,_,K3.out _ _ _ _ (by omega),rfl⟩ ?_;rintro v' w' rfl)
 go_wp2;go_ret;have S0:Below w.heap.size w (K.setRow N c2).drew:=by
  have h1:Below w.heap.size w (K.setRow N c2):=(show Below w.heap.size w K by rw [hN];exact L0.out).grown (grown_setRow K N c2) (by omega) (fun q hq=>by have:=Option.some.inj hq;omega);exact h1.trans ((below_drew _).mono h1.size)
 refine ⟨.slice (some ⟨N,0,none⟩) (xs.length+1) G,rfl,?_,grown_wide (grown_none S0),fun k hk=>.inr (by have M1:N=k:=Option.some.inj hk;omega)⟩;have h:=K4.out.drew.owns;rw [show (xs.take i ++ y :: xs.drop i).length=xs.length+1 by simp;omega] at h;exact h
theorem zero_txt (z:Value) (hz:∃ ti,Tryz.prog.info? 9=some ti∧ti.zero=some z):∀ u ∈ z.cells,u.oneCell'=true:=by
 obtain ⟨ti,C,D⟩:=hz;obtain ⟨i,B,A,F,E⟩:=info_parts info_txt;rw [C] at B;obtain rfl:=Option.some.inj B;rw [D] at A;obtain rfl:=Option.some.inj A;exact fun u hu=>(List.all_eq_true.1 (show (Value.cells _).toList.all (fun u=>u.oneCell')=true by kernel_rfl)) u (Array.mem_toList_iff.2 hu)
set_option maxHeartbeats 4000000 in
set_option maxRecDepth 100000 in
theorem SlDeleteT_any (base:Nat) (v:Value) (xs:List ByteArray) (fn:FuncId) (caps:Array Value) (p:ByteArray→Bool) (w:World) (ho:OwnsS (fun _=>False) w base 9 v xs) (hp:PredS fn caps w p) (hq:∀ (x:ByteArray) (W:World),x.size≤maxLen→w.grownBy W v.ownBlock→Calls Tryz.prog fn (#[.string x] ++ caps) W fun e W'=>e=.returned (.bool (p x))∧Below W.heap.size W W') (hl:xs.length≤1000) :
  Calls Tryz.prog 148 #[v,.func (.func fn) #[] caps] w fun e w'=>∃ v',e=.returned v'∧OwnsS (fun _=>False) w' base 9 v' (xs.filter fun x=>!p x)∧w.grownBy w' v.ownBlock∧∀ k,v'.ownBlock=some k→v.ownBlock=some k:=by
 have HQ:=Lh_ hq;clear hq;have Z0:=hp.1;have HP:=Lh_ hp;have HL:=Lh_ hl;have HO:=Lh_ ho;clear hp;go_enter Tryz.func148,Tryz.ntmps148;rcases ho.opened with ⟨rfl,rfl⟩ | ⟨gr,cap,cur,css,rfl,hrow⟩
 ·
  clear ho;go_wp2_with fail;refine (IndexFunc_any none 0 [] fn caps p w Sl.nil_ HP.out).mono ?_;rintro e w1 ⟨rfl,E⟩;have B:=Lh_ E;clear E;have O:idxInt p ([]:List ByteArray) = -1:=rfl;rw [O];go_wp2;go_ret;exact ⟨.slice none 0 0,rfl,HO.out.below B.out,grown_wide (grown_none B.out),fun k hk=>by cases hk⟩
 have P:=Lh_ hrow;have W0:=hrow.le;have G0:=hrow.lim;unfold maxLen at G0;clear ho hrow;have X:Sl w w.heap.size (some ⟨gr,0,none⟩) cap xs:=by obtain ⟨A9,c9,he,hs⟩:=HO.out.sl;injection he with e1 e2 e3;subst e1;subst e3;exact hs
 have F0:=Lh_ X;clear X;go_wp2_with fail;refine (IndexFunc_any (some ⟨gr,0,none⟩) cap xs fn caps p w F0.out HP.out).mono ?_;rintro e w1 ⟨rfl,E⟩;have B:=Lh_ E;clear E;have I:=idx_casesT p xs;obtain ⟨z,O⟩:∃ z,idxInt p xs=z:=⟨_,rfl⟩;rw [O] at I ⊢;clear O;rcases I with ⟨rfl,hall⟩ | ⟨i0,x0,rfl,hx0,hp0,hbe⟩
 ·
  have HF:=Lh_ (show xs.filter (fun x=>!p x)=xs from List.filter_eq_self.2 fun x hx=>by rw [hall x hx];rfl);clear hall;go_wp2;go_ret;exact ⟨.slice (some ⟨gr,0,none⟩) xs.length cap,rfl,by rw [HF.out];exact HO.out.below B.out,grown_wide (grown_none B.out),fun k hk=>hk⟩
 have K0:=(List.getElem?_eq_some_iff.1 hx0).1;have Y:=DelSt.start (W:=w) (P.out.below B.out) (grown_wide (grown_none B.out)) hx0 hp0 hbe;have A:=Lh_ Y;clear Y hx0 hp0 hbe;have L0:((i0:Int) == -1)=false:=by simp;try omega
 have Z:IntKind.i64.wrap ((i0:Int)+1)=((i0+1:Nat):Int):=by rw [IntKind.wrap_i64];omega
 go_wp2_with fail;go_loopw [5,6] (fun si sj wr=>∃ i j:Nat,si=.int .i64 i∧sj=.int .i64 j∧Hid (DelSt (fun _=>False) base 9 gr cap w xs p i j wr)) (fun _ sj _=>xs.length - (intOf sj).toNat)
 case atStart=>exact ⟨i0,i0+1,rfl,by first | rfl | go_num,A⟩
 clear A Z L0 K0;obtain ⟨i,j,rfl,rfl,A⟩:=hrel;obtain ⟨B1,D1,F1⟩:=A.out.leT;have U0:=Lh_ A.out.grownT.size;by_cases hlt:j<xs.length
 ·
  have i1:(j:Int)<(xs.length:Int):=by omega
  have N:xs[j]? = some xs[j]:=List.getElem?_eq_getElem hlt;obtain ⟨x,hx⟩:∃ x,xs[j]'hlt=x:=⟨_,rfl⟩;rw [hx] at N;have G:=Lh_ N;clear N hx;obtain ⟨⟨cs,V,S⟩,H0,M,J0⟩:=A.out.at_ G.out;have E0:=Lh_ V;obtain ⟨rfl,M0⟩:=V;have y0:=S 0 _ rfl;rw [show j * Rep.size ByteArray+0=j by show j * 1+0=j;omega] at y0;clear S H0 M J0;go_wp2_with fail;have C:=HQ.out x wr M0 A.out.grownT;refine Calls.mono (R:=fun e W'=>e=.returned (.bool (p x))∧Below wr.heap.size wr W') ?_ ?_
  · first | exact C | simpa using C
  rintro e w3 ⟨rfl,Q⟩;have K:=Lh_ Q;clear Q y0 C;cases hpx:p x with
  | true =>
   have D:=A.out.skip G.out hpx K.out;have L:=Lh_ D;clear D hpx;go_wp2;go_roundw
   case rel=>exact ⟨i,j+1,rfl,by go_num,L⟩
   simp [intOf];omega
  | false =>
   have D0:=Lh_ hpx;clear hpx;obtain ⟨-,kk,M,-⟩:=(A.out.belowT K.out).at_ G.out;obtain ⟨v0,e0⟩:∃ u,w3.cell? ⟨gr,i * 1+0,none⟩=some u:=kk 0 (by decide);rw [show i * 1+0=i by omega] at e0;have X0:i≤cap:=by omega
   have C1:(i:Int)<(xs.length:Int):=by omega
   clear kk;go_upto_region 10 with fail
   clear e0 M;obtain ⟨w4,hw4⟩:∃ z,w3.setCell ⟨gr,i,none⟩ (.string x)=z:=⟨_,rfl⟩;have D:=A.out.put G.out D0.out K.out E0.out;rw [show w3.setCells gr (i * Rep.size ByteArray) [.string x]=w4 from by rw [show i * Rep.size ByteArray=i by show i * 1=i;omega,setCells1];exact hw4] at D;rw [hw4];clear hw4;have L:=Lh_ D;clear D;have Z:IntKind.i64.wrap ((i:Int)+1)=((i+1:Nat):Int):=by rw [IntKind.wrap_i64];omega
   go_wp2;go_roundw
   case rel=>exact ⟨i+1,j+1,by first | rfl | go_num,by go_num,L⟩
   simp [intOf];omega
 have i1:¬ (j:Int)<(xs.length:Int):=by omega
 obtain rfl:j=xs.length:=by omega
 have A1:¬ cap=i:=by omega
 have O0:(i:Int)≤(xs.length:Int):=by omega
 have P0:(i:Int)≤(cap:Int):=by omega
 have T:∀ (z:Value),(∃ ti,Tryz.prog.info? 9=some ti∧ti.zero=some z)→∀ u ∈ z.cells,u.oneCell'=true:=fun z O=>zero_txt z O
 go_wp2_with (refine wpList_clearR (R:=fun v' w'=>w.grownBy w' (some gr)∧OwnsS (fun _=>False) w' base 9 (.slice (some ⟨gr,0,none⟩) i cap) (xs.filter fun x=>!p x)) (tys:=#[27]) rfl _ rfl (.slice (some ⟨gr,i,none⟩) (xs.length - i) (cap - i)) rfl (by obtain ⟨W2,J,I0,U,-⟩:=A.out.done E_txt _ (cap - i) T;rw [show i * Rep.size ByteArray=i by show i * 1=i;omega] at J;exact ⟨_,W2,J,I0,U⟩) ?_;rintro v' w9 ⟨H,F⟩;have A0:=Lh_ H;have C0:=Lh_ F;clear H F);go_ret;exact ⟨.slice (some ⟨gr,0,none⟩) i cap,rfl,C0.out,A0.out,fun k hk=>hk⟩
end
theorem Sl.term {w:World} {B c:Nat} {A:Option Addr} {xs:List Term4} (h:Sl w B A c xs) {i:Nat} (hi:i<xs.length) :
  ∃ b o,A=some ⟨b,o,none⟩∧b<B∧okT xs[i]∧w.cell? ⟨b,o+i * 4,none⟩=some (.int .i64 xs[i].key)∧w.cell? ⟨b,o+i * 4+1,none⟩=some (.string xs[i].nm)∧w.cell? ⟨b,o+i * 4+2,none⟩=some (.int .i64 xs[i].op)∧w.cell? ⟨b,o+i * 4+3,none⟩=some (.string xs[i].val):=by
 obtain ⟨b,o,e,E,H,F,D⟩:=h.at_ hi;obtain ⟨rfl,G⟩:=F;have C:Rep.size Term4=4:=rfl;refine ⟨b,o,e,E,G,?_,?_,?_,?_⟩
 · have:=D 0 _ rfl;rw [C] at this;exact this
 · have:=D 1 _ rfl;rw [C] at this;rw [Nat.add_assoc];exact this
 · have:=D 2 _ rfl;rw [C] at this;rw [Nat.add_assoc];exact this
 have:=D 3 _ rfl;rw [C] at this;rw [Nat.add_assoc];exact this
theorem info_draft2:(Tryz.prog.info? 30).map (fun i=>(i.zero,i.size))=some (some (.agg #[.slice none 0 0,.slice none 0 0,.slice none 0 0,.slice none 0 0,.slice none 0 0,.string ByteArray.empty,.int .i64 0,.string ByteArray.empty,.string ByteArray.empty,.int .i64 0,.string ByteArray.empty,.int .i64 0,.int .i64 0,.slice none 0 0]),14):=by kernel_rfl
theorem info_term:(Tryz.prog.info? 35).map (fun i=>(i.zero,i.size,i.bytes))=some (some (.agg #[.int .i64 0,.string ByteArray.empty,.int .i64 0,.string ByteArray.empty]),4,48):=by kernel_rfl
theorem E_term:ElemT Tryz.prog (Rep.size Term4) 35 28 48:=⟨Tryz.underlying28,by obtain ⟨i,hi,hz,h1,h2⟩:=info_parts info_term;exact ⟨i,_,hi,hz,h1,h2,rfl⟩⟩
set_option maxRecDepth 100000 in
theorem Clone4_any (A:Option Addr) (c:Nat) (ys:List Term4) (w:World) (B:Nat) (hB:B≤w.heap.size) (hx:Sl w B A c ys) (hl:ys.length≤1000000):Calls Tryz.prog 71 #[.slice A ys.length c] w fun e w'=>Below w.heap.size w w'∧∃ v,e=.returned v∧OwnsS (fun _=>False) w' w.heap.size 35 v ys:=by
 have K:=hx.1;have G:=hx.2.1;unfold maxLen at G;have M:=Lh_ hx;have H:=Lh_ hB;have L:=Lh_ hl;clear hx hB hl;rcases A with _ | A
 ·
  have Q:ys=[]:=by
    rcases ys with _ | ⟨y,r⟩
    · rfl
    obtain ⟨b,o,e,_⟩:=M.out.2.2 (by simp);cases e
  subst Q;go_enter Tryz.func71,Tryz.ntmps71;have N:=fun W=>Lib.run_eql_slice_nil_nil (P:=Tryz.prog) W 0 c Tryz.underlying28
  go_wp2;go_ret;exact ⟨Below.refl _ _,.slice none 0 0,by try rfl,OwnsS.nil_ _ _ _ _⟩
 go_enter Tryz.func71,Tryz.ntmps71;have N:=fun W=>Lib.run_eql_slice_some_nil (P:=Tryz.prog) W A ys.length c Tryz.underlying28
 go_upto_region 3 with fail
 have D:=Lh_ (owns_made (fun x=>x<B) w (base:=w.heap.size) 35 Term4 (Nat.le_refl _));have F:Below w.heap.size w (w.alloc (.cells #[] 35)):=(Below.refl _ _).alloc (Nat.le_refl _) _;have C:=Lh_ F;clear F;have E:=Lh_ (show SlS (w.alloc (.cells #[] 35)) (fun b=>b<B∧b<(w.alloc (.cells #[] 35)).heap.size∧(Value.slice (some ⟨w.heap.size,0,none⟩) 0 0).ownBlock≠some b) (some A) c ys from (SlS_iff.1 (M.out.keep (C.out.mono H.out))).mono (fun b hb=>⟨hb,by have:=H.out;have:=C.out.size;omega,fun e=>by have R:w.heap.size=b:=Option.some.inj e;have:=H.out;have T:b<B:=hb;omega⟩) (fun _ _ _ _ hu=>hu));clear K G N;go_wp2_with (at_builtin;go_must (refine wpList_app rfl _ _ rfl (.slice (some ⟨w.heap.size,0,none⟩) 0 0) _ rfl rfl (run_appL E_term _ _ [] D.out (some A) c ys (.inl E.out) (by have:=L.out;have J:([]:List Term4).length=0:=rfl;unfold maxLen;omega) (by have:=L.out;have J:([]:List Term4).length=0:=rfl;omega) C.out.size) ?_);intro v1 w1 hR_;have I:=Lh_ hR_;clear hR_);obtain ⟨O,S,-⟩:=I.out;rw [List.nil_append] at O;go_ret;exact ⟨C.out.grown S C.out.size (fun q hq=>by have R:w.heap.size=q:=Option.some.inj hq;omega),v1,by try rfl,own_any4 O⟩
set_option maxRecDepth 100000 in
theorem CloneT_any (A:Option Addr) (c:Nat) (ys:List ByteArray) (w:World) (B:Nat) (hB:B≤w.heap.size) (hx:Sl w B A c ys) (hl:ys.length≤1000000):Calls Tryz.prog 72 #[.slice A ys.length c] w fun e w'=>Below w.heap.size w w'∧∃ v,e=.returned v∧OwnsS (fun _=>False) w' w.heap.size 9 v ys:=by
 have K:=hx.1;have G:=hx.2.1;unfold maxLen at G;have M:=Lh_ hx;have H:=Lh_ hB;have L:=Lh_ hl;clear hx hB hl;rcases A with _ | A
 ·
  have Q:ys=[]:=by
    rcases ys with _ | ⟨y,r⟩
    · rfl
    obtain ⟨b,o,e,_⟩:=M.out.2.2 (by simp);cases e
  subst Q;go_enter Tryz.func72,Tryz.ntmps72;have N:=fun W=>Lib.run_eql_slice_nil_nil (P:=Tryz.prog) W 0 c Tryz.underlying27
  go_wp2;go_ret;exact ⟨Below.refl _ _,.slice none 0 0,by try rfl,OwnsS.nil_ _ _ _ _⟩
 go_enter Tryz.func72,Tryz.ntmps72;have N:=fun W=>Lib.run_eql_slice_some_nil (P:=Tryz.prog) W A ys.length c Tryz.underlying27
 go_upto_region 3 with fail
 have D:=Lh_ (owns_made (fun x=>x<B) w (base:=w.heap.size) 9 ByteArray (Nat.le_refl _));have F:Below w.heap.size w (w.alloc (.cells #[] 9)):=(Below.refl _ _).alloc (Nat.le_refl _) _;have C:=Lh_ F;clear F;have E:=Lh_ (show SlS (w.alloc (.cells #[] 9)) (fun b=>b<B∧b<(w.alloc (.cells #[] 9)).heap.size∧(Value.slice (some ⟨w.heap.size,0,none⟩) 0 0).ownBlock≠some b) (some A) c ys from (SlS_iff.1 (M.out.keep (C.out.mono H.out))).mono (fun b hb=>⟨hb,by have:=H.out;have:=C.out.size;omega,fun e=>by have R:w.heap.size=b:=Option.some.inj e;have:=H.out;have T:b<B:=hb;omega⟩) (fun _ _ _ _ hu=>hu));clear K G N;go_wp2_with (at_builtin;go_must (refine wpList_app rfl _ _ rfl (.slice (some ⟨w.heap.size,0,none⟩) 0 0) _ rfl rfl (run_appL E_txt _ _ [] D.out (some A) c ys (.inl E.out) (by have:=L.out;have J:([]:List ByteArray).length=0:=rfl;unfold maxLen;omega) (by have:=L.out;have J:([]:List ByteArray).length=0:=rfl;omega) C.out.size) ?_);intro v1 w1 hR_;have I:=Lh_ hR_;clear hR_);obtain ⟨O,S,-⟩:=I.out;rw [List.nil_append] at O;go_ret;exact ⟨C.out.grown S C.out.size (fun q hq=>by have R:w.heap.size=q:=Option.some.inj hq;omega),v1,by try rfl,own_anyT O⟩
theorem lower_any (c:Int) (w:World):Calls Tryz.prog 180 #[.int .u8 c] w fun e w'=>e=.returned (.int .u8 (bits .or .u8 c 32))∧w'=w:=by
 go_enter Tryz.func180,Tryz.ntmps180;go_wp2;go_ret;exact ⟨rfl,rfl⟩
def PuPost (o:Option Int) (w:World) (e:Ending) (w':World):Prop:=Below w.heap.size w w'∧((∃ n,o=some n∧e=.returned (.tuple #[.int .u64 n,.nilIface]))∨(o=none∧∃ x z,e=.returned (.tuple #[.int .u64 x,.iface 192 (.int .i64 z)])∧(z=1∨z=2)))
theorem puGo_big {a:Int} {c:UInt8} {r:List UInt8} (h:¬ (48≤c.toNat∧c.toNat≤55∧8 * a+((c.toNat:Int) - 48)≤4095)):puGo a (c :: r)=none:=by rw [puGo,if_neg h]
theorem puGo_ok {a:Int} {c:UInt8} {r:List UInt8} (h:48≤c.toNat∧c.toNat≤55∧8 * a+((c.toNat:Int) - 48)≤4095):puGo a (c :: r)=puGo (8 * a+((c.toNat:Int) - 48)) r:=by rw [puGo,if_pos h]
set_option maxHeartbeats 32000000 in
set_option maxRecDepth 100000 in
theorem puI_any (t:ByteArray) (hne:t.size≠0) (hmax:t.size≤100000) (w:World):Calls Tryz.prog 151 #[.string t,.int .i64 8,.int .i64 12] w (PuPost (puGo 0 t.data.toList) w):=by
 have K:Tryz.prog.follows Departure.mixedOrders=true:=by kernel_rfl
 have M:t.toList.isEmpty=false:=by
  rw [← decide_eq_emptyBytes];exact decide_eq_false (fun h=>hne (by rw [h];rfl))
 have I:=Lib.run_convert_string_bytes (P:=Tryz.prog) w 9 81 5 t (u:=.string) Tryz.underlying9 Tryz.underlying81 Tryz.underlying5;have G:∀ j,j<t.size→(Lib.bytesWorld w 5 t).cell? ⟨w.heap.size,j,none⟩=some (.int .u8 (t.data.toList.getD j 0).toNat):=fun j hj=>Lib.bytesWorld_cell w 5 t j hj
 have B:=Lh_ (Lib.bytesWorld_below w 5 t);obtain ⟨W1,hW1⟩:∃ W1,W1=Lib.bytesWorld w 5 t:=⟨_,rfl⟩;rw [← hW1] at I G B;clear hW1;obtain ⟨bs,hL⟩:∃ bs,bs=t.data.toList:=⟨_,rfl⟩;have S:bs.length=t.size:=by rw [hL,Lib.size_eq]
 rw [← hL] at G ⊢;clear hL hne;have V:IntKind.u64.wrap (IntKind.u64.wrap 4096 - 1)=4095:=by
  rw [IntKind.wrap_u64,IntKind.wrap_u64];decide
 go_enter Tryz.func151,Tryz.ntmps151;go_wp2;go_loop [12,13,101] (fun vu vn vi=>∃ (k:Nat) (a:Int),vu=.bool false∧vn=.int .u64 a∧vi=.int .i64 k∧k≤t.size∧Hid (0≤a∧a≤4095∧puGo 0 bs=puGo a (bs.drop k)))
  (fun _ _ vi=>t.size - (intOf vi).toNat)
 case atStart=>exact ⟨0,0,rfl,rfl,rfl,by omega,by omega,by omega,rfl⟩
 obtain ⟨k,a,rfl,rfl,rfl,hk,N⟩:=hrel;obtain ⟨Q,R,A⟩:=N.out;clear N;by_cases hkn:k<t.size
 ·
  have L:=G k hkn
  have D:bs.drop k=bs[k]'(by omega) :: bs.drop (k+1):=List.drop_eq_getElem_cons (by omega);have E:bs.getD k 0=bs[k]'(by omega):=by simp [List.getD,List.getElem?_eq_getElem (show k<bs.length by omega)]
  rw [D] at A;rw [E] at L;generalize bs[k]'(by omega)=c at L A;have H:c.toNat<256:=c.toNat_lt;clear G D E;by_cases hdig:48≤c.toNat∧c.toNat≤57
  ·
   obtain ⟨T,U⟩:=hdig
   by_cases hoct:c.toNat≤55
   ·
    by_cases hov:4095<a * 8+((c.toNat:Int) - 48)
    ·
     have C:=A.trans (puGo_big (by omega))
     have F:=Lh_ C;clear C A;go_wp2;go_ret2;exact ⟨B.out,.inr ⟨F.out,_,_,rfl,.inl rfl⟩⟩
    have O:Hid (0≤a * 8+((c.toNat:Int) - 48)∧a * 8+((c.toNat:Int) - 48)≤4095∧puGo 0 bs=puGo (a * 8+((c.toNat:Int) - 48)) (bs.drop (k+1))):=Lh_ ⟨by omega,by omega,A.trans (by rw [puGo_ok (by omega),show 8 * a+((c.toNat:Int) - 48)=a * 8+((c.toNat:Int) - 48) by omega])⟩;have A0:a * 8+((c.toNat:Int) - 48)≤4095:=by omega
    clear hov A;go_wp2;refine ⟨⟨k+1,a * 8+((c.toNat:Int) - 48),rfl,(by first | rfl | (congr 1;omega)),(by first | rfl | (congr 1;omega)),by omega,O⟩,by simp [intOf];omega⟩
   have C:=A.trans (puGo_big (by omega));have F:=Lh_ C;clear C A;go_wp2;go_ret2;exact ⟨B.out,.inr ⟨F.out,_,_,rfl,.inr rfl⟩⟩
  have C:=A.trans (puGo_big (by omega));have F:=Lh_ C;clear C A;have Y:=bits_lo_u8 .or (c.toNat:Int) 32;have Z:=bits_hi_u8 .or (c.toNat:Int) 32;have W:=bits_lo_u8 .or 95 32;have X:=bits_hi_u8 .or 95 32;go_wp2_with (go_at_call 180;refine (lower_any _ _).mono ?_;rintro e w' ⟨rfl,rfl⟩);all_goals go_ret2
  all_goals exact ⟨B.out,.inr ⟨F.out,_,_,rfl,.inr rfl⟩⟩
 have J:k=t.size:=by omega
 subst J;have C:puGo 0 bs=some a:=A.trans (by rw [List.drop_eq_nil_of_le (by omega)];rfl);have F:=Lh_ C;clear C A Q R;go_wp2;go_ret2;exact ⟨B.out,.inl ⟨a,F.out,rfl⟩⟩
def PuR (o:Option Int) (w:World) (e:Ending) (w':World):Prop:=Below w.heap.size w w'∧∃ x ev,e=.returned (.tuple #[.int .u64 x,ev])∧((o=some x∧ev=.nilIface)∨(o=none∧∃ te pe,ev=.iface te pe))
set_option maxHeartbeats 4000000 in
set_option maxRecDepth 100000 in
theorem Pu_any (t:ByteArray) (w:World) (hok:Ok7 w) (ht:t.size≤100000):Calls Tryz.prog 125 #[.string t,.int .i64 8,.int .i64 12] w (PuR (puT t) w):=by
 have S:=Lh_ hok;clear hok;have O:=Lh_ ht;clear ht;have D:Calls Tryz.prog 151 #[.string t,.int .i64 8,.int .i64 12] w (PuPost (puT t) w):=by
  by_cases h0:t.size=0
  ·
   have C:puT t=none:=by unfold puT;rw [if_pos h0]
   have K:t.toList.isEmpty=true:=by
    rw [← decide_eq_emptyBytes];exact decide_eq_true (ba_ext (List.eq_nil_of_length_eq_zero (by rw [ba_size];exact h0)))
   obtain ⟨U,V⟩:=emptiesR K;have M:=Lh_ C;clear C h0;go_enter Tryz.func151,Tryz.ntmps151;go_wp2;go_ret2;exact ⟨Below.refl _ _,.inr ⟨M.out,_,_,rfl,.inr rfl⟩⟩
  have C:puT t=puGo 0 t.data.toList:=by unfold puT;rw [if_neg h0]
  rw [C];exact puI_any t h0 O.out w
 have T:=Lh_ D;clear D;go_enter Tryz.func125,Tryz.ntmps125;go_wp2_with fail;refine T.out.mono ?_;rintro e w1 ⟨I,Q⟩;have E:=Lh_ I;have R:=Lh_ (S.out.below I);clear I;rcases Q with ⟨n,hn,rfl⟩ | ⟨hn,x,z,rfl,hz⟩
 ·
  have L:=Lh_ hn;clear hn
  go_wp2;go_ret2;exact ⟨E.out,n,_,rfl,.inl ⟨L.out,rfl⟩⟩
 have L:=Lh_ hn;clear hn;rcases hz with rfl | rfl
 ·
  obtain ⟨-,⟨P,A,B⟩,-⟩:=R.out
  have G:=Lh_ A;have H:=Lh_ B;clear A B;go_wp2_with fail;refine (Tryz.strconv_toError_range _ t 8 12 P _ (by have:=O.out;omega) G.out H.out).mono ?_;rintro e w2 ⟨N,rfl,A,B,J⟩;have F:=Lh_ (below_next E.out J);clear A B J;go_wp2;go_ret2;exact ⟨F.out,x,_,rfl,.inr ⟨L.out,_,_,rfl⟩⟩
 obtain ⟨⟨P,A,B⟩,-,-⟩:=R.out;have G:=Lh_ A;have H:=Lh_ B;clear A B;go_wp2_with fail;refine (Tryz.strconv_toError_syntax _ t 8 12 P _ (by have:=O.out;omega) G.out H.out).mono ?_;rintro e w2 ⟨N,rfl,A,B,J⟩;have F:=Lh_ (below_next E.out J);clear A B J;go_wp2;go_ret2;exact ⟨F.out,x,_,rfl,.inr ⟨L.out,_,_,rfl⟩⟩
section
open Go.Shelf
structure PredM (g:FuncId) (caps:Array Value) (w:World) (B:Nat) (Q:Term4→Prop) (p:Term4→Bool):Prop where
 enters:∀ args w,(callFunc g args).run Tryz.prog w=.ok (.enter g args) w
 gives:∀ (d:Term4) (W:World),okT d→Q d→Below w.heap.size w W→Calls Tryz.prog g (#[.agg #[.int .i64 d.key,.string d.nm,.int .i64 d.op,.string d.val]] ++ caps) W fun e W'=>e=.returned (.bool (p d))∧Below W.heap.size W W'
theorem PredM.next {g:FuncId} {caps:Array Value} {w w':World} {B:Nat} {Q:Term4→Prop} {p:Term4→Bool} (h:PredM g caps w B Q p) (hb:Below w.heap.size w w'):PredM g caps w' B Q p :=
 ⟨h.enters,fun d W h1 h3 hW=>h.gives d W h1 h3 (hb.trans (hW.mono hb.size))⟩
set_option maxRecDepth 10000 in
theorem IndexFuncM_any (A:Option Addr) (c:Nat) (xs:List Term4) (g:FuncId) (caps:Array Value) (Q:Term4→Prop) (p:Term4→Bool) (w:World) (B:Nat) (hB:B≤w.heap.size) (hx:Sl w B A c xs) (hp:PredM g caps w B Q p) (hq:∀ d ∈ xs,Q d) :
  Calls Tryz.prog 73 #[.slice A xs.length c,.func (.func g) #[] caps] w fun e w'=>e=.returned (.int .i64 (idxInt p xs))∧Below w.heap.size w w':=by
 have hc:=hx.1;have T:=hx.2.1;unfold maxLen at T;have A0:=hp.enters;have X:=Lh_ hp;clear hp;have P:=Lh_ hx;clear hx;have O:=Lh_ hq;clear hq;have V:=Lh_ hB;clear hB;go_enter Tryz.func73,Tryz.ntmps73;go_wp2;go_loopw [8] (fun i wr=>∃ k:Nat,k≤xs.length∧i=.int .i64 k∧Hid ((xs.take k).all (fun x=>!p x)=true)∧Below w.heap.size w wr) (fun i _=>xs.length - (intOf i).toNat)
 case atStart=>exact ⟨0,Nat.zero_le _,rfl,rfl,Below.refl _ _⟩
 obtain ⟨k,hk,rfl,N,G⟩:=hrel;by_cases hlt:k<xs.length
 ·
  obtain ⟨b3,o3,rfl,Z,E,H,I,J,K⟩:=Sl.term (P.out.keep (G.mono V.out)) hlt
  have F:xs[k]? = some xs[k]:=List.getElem?_eq_getElem hlt;have U:=Lh_ (O.out _ (List.getElem_mem hlt));obtain ⟨x,hx⟩:∃ x,xs[k]'hlt=x:=⟨_,rfl⟩;rw [hx] at H I J K E F U;have Y:=Lh_ F;clear F;have S:=Lh_ hx;clear hx;have i1:(k:Int)<(xs.length:Int):=by omega
  have C:=Lh_ (X.out.gives x wr E U.out G)

  go_wp2_with fail;refine Calls.mono (R:=fun e W'=>e=.returned (.bool (p x))∧Below wr.heap.size wr W') ?_ ?_
  · first | exact C.out | simpa using C.out
  rintro e w1 ⟨rfl,L⟩;have M:=G.trans (L.mono G.size);clear L G C J K H I E;cases hpx:p x with
  | true =>
   have D:=Lh_ hpx;clear hpx;go_wp2;go_ret;exact ⟨ret_int (idxInt_some hlt N.out (by rw [S.out];exact D.out)).symm,M⟩
  | false =>
   have D:=Lh_ hpx;clear hpx;go_wp2;go_roundw
   case rel=>exact ⟨k+1,by omega,by go_num,all_step N.out Y.out (by rw [D.out];rfl),M⟩
   simp [intOf];omega
 go_wp2;go_ret;exact ⟨ret_int (idxInt_none (all_end N.out (by omega))).symm,G⟩
theorem ContainsFuncM_any (A:Option Addr) (c:Nat) (xs:List Term4) (g:FuncId) (caps:Array Value) (Q:Term4→Prop) (p:Term4→Bool) (w:World) (B:Nat) (hB:B≤w.heap.size) (hx:Sl w B A c xs) (hp:PredM g caps w B Q p) (hq:∀ d ∈ xs,Q d) :
  Calls Tryz.prog 34 #[.slice A xs.length c,.func (.func g) #[] caps] w fun e w'=>e=.returned (.bool (xs.any p))∧Below w.heap.size w w':=by
 have G:=Lh_ hp;clear hp;have D:=Lh_ hx;clear hx;have C:=Lh_ hq;clear hq;have F:=Lh_ hB;clear hB;go_enter Tryz.func34,Tryz.ntmps34;go_wp2_with fail;refine (IndexFuncM_any A c xs g caps Q p w B F.out D.out G.out C.out).mono ?_;rintro e w1 ⟨rfl,E⟩;go_wp2;go_ret;exact ⟨ret_bool (idxInt_any _ _),E⟩

theorem BS_any (A:Option Addr) (c:Nat) (l:List ByteArray) (s:ByteArray) (w:World) (hx:Sl w w.heap.size A c l) (ha:ascL l=true) (hl:l.length≤1000000):Calls Tryz.prog 126 #[.slice A l.length c,.string s] w fun e w'=>e=.returned (.tuple #[.int .i64 (posT l s:Nat),.bool (hasT l s)])∧Below w.heap.size w w':=by
 by_cases h0:l.length=0
 ·
  have E:l=[]:=List.eq_nil_of_length_eq_zero h0
  subst E;refine (Tryz.slices_BinarySearch_textsE A c s w).mono ?_;rintro e w' ⟨rfl,rfl⟩;exact ⟨rfl,Below.refl _ _⟩
 obtain ⟨b,o,rfl,H,C⟩:=hx.2.2 (by omega);refine (Tryz.slices_BinarySearch_texts b o l.length c (fun t=>l.getD t s) s w (by omega) (fun j hj=>?_)).mono ?_
 ·
  obtain ⟨F,⟨rfl,G⟩,D⟩:=C j _ (List.getElem?_eq_getElem hj)
  have B:=D 0 _ rfl;rw [show j * Rep.size ByteArray+0=j by show j * 1+0=j;omega] at B;rw [B];simp [List.getD,List.getElem?_eq_getElem hj]
 rintro e w' ⟨rfl,q,rfl⟩;rw [bs_pos ha,bs_has];exact ⟨rfl,below_drewN_self _ _ _⟩
theorem full_any (v:ByteArray) (w:World) (hv:v.size≤maxLen):Calls Tryz.prog 81 #[.string v] w fun e w'=>e=.returned (.bool (fullT v))∧Below w.heap.size w w':=by
 have E:=Lh_ hv;clear hv;go_enter Tryz.func81,Tryz.ntmps81;by_cases hve:v.toList.isEmpty=true
 ·
  obtain ⟨F,G⟩:=emptiesR hve
  have C:=Lh_ (show fullT v=false by unfold fullT;rw [hve];rfl);clear hve;go_wp2;go_ret;exact ⟨by rw [C.out];rfl,Below.refl _ _⟩
 have A:v.toList.isEmpty=false:=by simpa using hve
 obtain ⟨F,G⟩:=emptiesR A;have C:=Lh_ (show fullT v=textB v by unfold fullT;rw [A];rfl);clear hve A;go_wp2_with fail;refine (Text_any v _ E.out).mono ?_;rintro e w9 ⟨rfl,B⟩;rw [← B];clear B w9;obtain ⟨tx,htx⟩:∃ z,textB v=z:=⟨_,rfl⟩;rw [htx];have D:=Lh_ htx;clear htx;go_wp2;go_ret;exact ⟨by rw [C.out,D.out];rfl,Below.refl _ _⟩
theorem putT_no {l:List ByteArray} {s:ByteArray} {n:Nat} (h:hasT l s=true∨n≤l.length):putT l s n=l:=if_pos h
theorem putT_yes {l:List ByteArray} {s:ByteArray} {n p:Nat} (h1:hasT l s=false) (h2:¬ n≤l.length) (hp:posT l s=p):putT l s n=l.take p ++ s :: l.drop p:=by
 unfold putT;rw [if_neg (fun h=>h.elim (fun h=>by rw [h1] at h;cases h) h2),hp]
set_option maxRecDepth 100000 in
theorem put_any (base:Nat) (v:Value) (l:List ByteArray) (s:ByteArray) (w:World) (ho:OwnsS (fun _=>False) w base 9 v l) (ha:ascL l=true) (hl:l.length≤1000) (hs:s.size≤maxLen) (hb:base≤w.heap.size) :
  Calls Tryz.prog 82 #[v,.string s,.int .i64 16] w (RowPost 9 base v (putT l s 16) w):=by
 obtain ⟨A,c,rfl,D⟩:=ho.sl;have Z:=D.1;have S:=D.2.1;unfold maxLen at S;have M:=Lh_ ho;have R:=Lh_ D;have U:=Lh_ ha;have Y:=Lh_ hs;have V:=Lh_ hb;clear ho D ha hs hb;go_enter Tryz.func82,Tryz.ntmps82;go_wp2_with fail;refine (BS_any A c l s _ R.out U.out (by omega)).mono ?_;rintro e w1 ⟨rfl,G⟩;have B:=Lh_ G;clear G;have L:=posT_le l s;obtain ⟨p,hp⟩:∃ z,posT l s=z:=⟨_,rfl⟩;obtain ⟨q,hq⟩:∃ z,hasT l s=z:=⟨_,rfl⟩;rw [hp] at L;rw [hp,hq];have X:=Lh_ hp;have T:=Lh_ hq;clear hp hq;cases q with
 | true =>
  have F:=Lh_ (putT_no (n:=16) (.inl T.out));go_wp2;go_ret;rw [F.out];exact RowPost.same M.out B.out
 | false =>
  by_cases h16:16≤l.length
  ·
   have i1:(16:Int)≤(l.length:Int):=by omega
   have F:=Lh_ (putT_no (s:=s) (.inr h16));clear h16;go_wp2;go_ret;rw [F.out];exact RowPost.same M.out B.out
  have i1:¬ (16:Int)≤(l.length:Int):=by omega
  have F:=Lh_ (putT_yes T.out h16 X.out);clear h16;obtain ⟨w2,hw2⟩:∃ z,w1.alloc (.cells #[.string s] 9)=z:=⟨_,rfl⟩;have H:Below w1.heap.size w1 w2:=by rw [← hw2];exact (Below.refl _ _).alloc (Nat.le_refl _) _
  have O:=Lh_ (show w2.heap[w1.heap.size]? = some (.cells [Value.string s].toArray 9 (0,0)) from by rw [← hw2];exact heap_alloc_new w1 _);have W:=Lh_ (show w2.heap.size=w1.heap.size+1 by rw [← hw2];simp);have C:=Lh_ (below_next B.out H);clear H;go_wp2_with fail;try rw [hw2]
  clear hw2;have E:=M.out.below C.out;refine (SlInsertT_any (fun _=>False) base (.slice A l.length c) l p s [.string s] w1.heap.size w2 E L (by omega) (fun e=>by have:=(M.out.lt _ e).2;have:=B.out.size;omega) O.out ⟨rfl,Y.out⟩ (Nat.le_trans V.out C.out.size)).mono ?_;rintro e w3 ⟨v',rfl,K,I,J⟩;have Q:=Lh_ K;have N:=Lh_ I;have P:=Lh_ J;clear K I J E;go_wp2;go_ret;rw [F.out];exact ⟨v',rfl,Q.out,grown_seq (grown_wide (grown_none C.out)) N.out,fun k hk=>(P.out k hk).imp id fun h=>Nat.le_trans C.out.size h⟩
theorem drop1_any (x s:ByteArray) (q:Nat) (w:World) (hc:w.cell? ⟨q,0,none⟩=some (.string s)):Calls Tryz.prog 149 #[.string x,.pointer (some ⟨q,0,none⟩)] w fun e w'=>e=.returned (.bool (decide (x=s)))∧Below w.heap.size w w':=by
 go_enter Tryz.func149,Tryz.ntmps149;go_wp2;go_ret;exact ⟨by rw [← ba_beq];rfl,Below.refl _ _⟩
set_option maxRecDepth 100000 in
theorem dropE_any (base:Nat) (v:Value) (l:List ByteArray) (s:ByteArray) (w:World) (ho:OwnsS (fun _=>False) w base 9 v l) (hl:l.length≤1000) (hb:base≤w.heap.size) :
  Calls Tryz.prog 121 #[v,.string s] w (RowPost 9 base v (withoutT l s) w):=by
 have N:=Lh_ ho;have P:=Lh_ hb;have O:=Lh_ hl;clear ho hb hl;go_enter Tryz.func121,Tryz.ntmps121;obtain ⟨w2,hw2⟩:∃ z,w.alloc (.cells #[.string s] 9)=z:=⟨_,rfl⟩;have C:Below w.heap.size w w2:=by rw [← hw2];exact (Below.refl _ _).alloc (Nat.le_refl _) _
 have L:=Lh_ (show BoxL w2 w.heap.size [.string s] from box_mk hw2);have B:=Lh_ C;clear C;go_wp2_with fail;try rw [hw2]
 clear hw2;have A:=N.out.below B.out;have F:∀ k,v.ownBlock=some k→k<w.heap.size:=fun k hk=>(N.out.lt k hk).2
 have D:=enters_of Tryz.func149 (by kernel_rfl) rfl;have M:∀ (x:ByteArray) (W:World),x.size≤maxLen→w2.grownBy W v.ownBlock→Calls Tryz.prog 149 (#[.string x] ++ #[.pointer (some ⟨w.heap.size,0,none⟩)]) W fun e W'=>e=.returned (.bool (decide (x=s)))∧Below W.heap.size W W':=fun x W _ hg =>
  drop1_any x s w.heap.size W ((L.out.kept hg (fun e=>by have:=F _ e.symm;omega)).1 0 _ rfl)
 refine (SlDeleteT_any base v l 149 #[.pointer (some ⟨w.heap.size,0,none⟩)] (fun x=>decide (x=s)) w2 A ⟨D,fun x W hx hW=>M x W hx (grown_wide (grown_none hW))⟩ M O.out).mono ?_;rintro e w3 ⟨v',rfl,H,E,G⟩;have K:=Lh_ H;have I:=Lh_ E;have J:=Lh_ G;clear H E G A M D F;go_wp2;go_ret;exact ⟨v',rfl,by have h:=K.out;rw [show (l.filter fun x=>!decide (x=s))=withoutT l s from by unfold withoutT;congr 1;funext x;rw [decide_not]] at h;exact h,grown_seq (grown_wide (grown_none B.out)) I.out,fun k hk=>.inl (J.out k hk)⟩
end
def lensD (d:Draft):Prop:=d.props.length≤1000000∧d.tags.length≤1000000∧d.links.length≤1000000∧d.run.length≤1000000∧d.load.length≤1000000∧d.closed.length≤1000000
set_option maxRecDepth 100000 in
set_option maxHeartbeats 8000000 in
theorem edit_any (d:Draft) (h:DH) (w:World) (hd:DSl w w.heap.size d h) (hl:lensD d) :
  Calls Tryz.prog 32 #[.agg #[.slice h.a0 d.props.length h.c0,.slice h.a1 d.tags.length h.c1,.slice h.a2 d.links.length h.c2,.slice h.a3 d.run.length h.c3,.slice h.a4 d.load.length h.c4,.string d.nm,.int .i64 d.prio,.string d.owner,.string d.group,.int .i64 d.mode,.string d.res,.int .i64 d.calls,.int .i64 d.ticks,.slice h.a5 d.closed.length h.c5]] w fun e w'=>Below w.heap.size w w'∧∃ X,e=.returned (.pointer (some ⟨X,0,none⟩))∧EdQ 53 9 35 (fun k=>k<w.heap.size) w' w.heap.size X d:=by
 have Y5:=(zero_of_info (P:=Tryz.prog) (t:=30) info_draft2).1;have HD:=Lh_ hd;have HL:=Lh_ hl;have H5:=Lh_ hd.2.2.2.2.2.2;clear hd hl;go_enter Tryz.func32,Tryz.ntmps32;go_upto_region 1 with fail
 obtain ⟨w1,F5,X0,B2,B4⟩:=bx_ w [.slice h.a0 d.props.length h.c0,.slice h.a1 d.tags.length h.c1,.slice h.a2 d.links.length h.c2,.slice h.a3 d.run.length h.c3,.slice h.a4 d.load.length h.c4,.string d.nm,.int .i64 d.prio,.string d.owner,.string d.group,.int .i64 d.mode,.string d.res,.int .i64 d.calls,.int .i64 d.ticks,.slice h.a5 d.closed.length h.c5] 30;try simp only [F5]
 have Z5:=Lh_ (show w.heap.size≤w1.heap.size from X0.size);have P4:=Lh_ X0;clear F5 X0;try rw [← B2.out]
 clear Y5;have C:=Lh_ (show w.heap.size<w1.heap.size by have:=B2.out;omega);have I5:=Lh_ (Nat.le_refl w1.heap.size);refine wp_region_held_late (S:=fun w'=>BoxL w' (w.heap.size) (drV d h)) (late:=fun i=>decide (7≤i)) (by kernel_rfl) ?_;obtain ⟨wd,hwd⟩:∃ z,World.drew w1=z:=⟨_,rfl⟩;rw [hwd];have A:Below w1.heap.size w1 wd:=by rw [← hwd];exact below_drewN_self _ _ 1
 clear hwd;have B6:=Lh_ (show w1.heap.size≤wd.heap.size from A.size);have Y:=tb_ P4 A;have W0:=kb_ B4 A;have R0:=Lh_ (Nat.le_trans I5.out (A).size);clear A;refine tkL 0 3 (.pointer (some ⟨w.heap.size,0,none⟩)) rfl (fun w' hS=>by go_simp) W0.out ?_;try simp only [zP,zA,zB,zC]
 refine tkL 1 4 (.slice h.a0 d.props.length h.c0) rfl (fun w' hS=>by (have Z0:=hS.1 0 _ rfl;go_simp)) W0.out ?_;try simp only [zP,zA,zB,zC]
 refine tkL 3 6 (.pointer (some ⟨w.heap.size,13,none⟩)) rfl (fun w' hS=>by go_simp) W0.out ?_;try simp only [zP,zA,zB,zC]
 refine tkL 4 7 (.slice h.a5 d.closed.length h.c5) rfl (fun w' hS=>by (have Z0:=hS.1 13 _ rfl;go_simp)) W0.out ?_;try simp only [zP,zA,zB,zC]
 refine rdL 2 (o:=⟨some 5,.call ⟨_,_,_⟩,_,_,_,_⟩) rfl (fun K hK=>?_);go_simp;go_at_call 70;refine (Clone_any h.a0 h.c0 d.props wd w.heap.size Y.out.size (HD.out.keep Y.out).1 HL.out.1).mono ?_;rintro e' c0_ ⟨A,v0,rfl,E⟩;obtain ⟨U,V,H,-⟩:=E.sl;subst H;have K5:=Lh_ (OwnsS.low E Y.out.size);have R:=Lh_ (show ∀ q,(.slice U d.props.length V:Value).ownBlock=some q→w1.heap.size≤q∧wd.heap.size≤q∧q<c0_.heap.size from fun q hq=>⟨Nat.le_trans R0.out (E.lt q hq).1,E.lt q hq⟩);have K2:=Lh_ (show wd.heap.size≤c0_.heap.size from A.size);have I:=tb_ Y A;have U0:=kb_ W0 A;have N:=Lh_ (Nat.le_trans R0.out (A).size);clear A E;refine hK.out _ _ (fun _=>U0.out) ?_;clear hK K;try simp only [zP,zA,zB,zC]
 refine tkL 6 9 (.pointer (some ⟨w.heap.size,0,none⟩)) rfl (fun w' hS=>by go_simp) U0.out ?_;try simp only [zP,zA,zB,zC]
 refine rdL 5 (o:=⟨some 8,.call ⟨_,_,_⟩,_,_,_,_⟩) rfl (fun K hK=>?_);go_simp;go_at_call 71;refine (Clone4_any h.a5 h.c5 d.closed c0_ w.heap.size I.out.size (HD.out.keep I.out).2.2.2.2.2.1 HL.out.2.2.2.2.2).mono ?_;rintro e' c5_ ⟨A,v5,rfl,E⟩;obtain ⟨W,k5,H,-⟩:=E.sl;subst H;have P5:=Lh_ (OwnsS.low E I.out.size);have T:=Lh_ (show ∀ q,(.slice W d.closed.length k5:Value).ownBlock=some q→w1.heap.size≤q∧c0_.heap.size≤q∧q<c5_.heap.size from fun q hq=>⟨Nat.le_trans N.out (E.lt q hq).1,E.lt q hq⟩);have P2:=Lh_ (show c0_.heap.size≤c5_.heap.size from A.size);have Q0:=tb_ I A;have F0:=kb_ U0 A;have F1:=Lh_ (Nat.le_trans N.out (A).size);have K1:=Lh_ (OwnsS.below K5.out A);clear A E;refine hK.out _ _ (fun _=>F0.out) ?_;clear hK K;try simp only [zP,zA,zB,zC]
 refine rdL 7 (o:=⟨none,.store _ _ _,_,_,_,_⟩) rfl (fun K hK=>?_);have C4:=F0.out.1 0 _ rfl;have G:=F0.out.2.1;go_simp;clear C4 G;have B:=grown_one c5_ (w.heap.size) 0 (.slice U d.props.length V);have D:=F0.out.set_ (j:=0) (by first | (simp;done) | decide) (.slice U d.props.length V);obtain ⟨x1,hx1⟩:∃ z,c5_.setCell ⟨w.heap.size,0,none⟩ (.slice U d.props.length V)=z:=⟨_,rfl⟩;rw [hx1] at B D ⊢;clear hx1;have V4:=Lh_ B.size;have I4:=Lh_ (show BoxL x1 (w.heap.size) [.slice U d.props.length V,.slice h.a1 d.tags.length h.c1,.slice h.a2 d.links.length h.c2,.slice h.a3 d.run.length h.c3,.slice h.a4 d.load.length h.c4,.string d.nm,.int .i64 d.prio,.string d.owner,.string d.group,.int .i64 d.mode,.string d.res,.int .i64 d.calls,.int .i64 d.ticks,.slice h.a5 d.closed.length h.c5] from D);have X1:=Lh_ (Q0.out.grown B Q0.out.size (fun q hq=>by have:=Option.some.inj hq;omega));have F2:=Lh_ (Nat.le_trans F1.out B.size);have S2:=Lh_ (K1.out.apart B (fun q hq e=>by have:=Option.some.inj e;have:=R.out q hq;have:=C.out;omega));have V3:=Lh_ (P5.out.apart B (fun q hq e=>by have:=Option.some.inj e;have:=T.out q hq;have:=C.out;omega));clear B D;refine hK.out _ _ (fun h_=>by cases h_) ?_;clear hK K;try simp only [zP,zA,zB,zC]
 refine rdL 8 (o:=⟨some 10,.fieldAddr _ _ _,_,_,_,_⟩) rfl (fun K hK=>?_);go_simp;refine hK.out _ _ (fun h_=>by cases h_) ?_;clear hK K;try simp only [zP,zA,zB,zC]
 refine rdL 9 (o:=⟨none,.store _ _ _,_,_,_,_⟩) rfl (fun K hK=>?_);have T0:=I4.out.1 13 _ rfl;have G:=I4.out.2.1;go_simp;clear T0 G;have B:=grown_one x1 (w.heap.size) 13 (.slice W d.closed.length k5);have D:=I4.out.set_ (j:=13) (by first | (simp;done) | decide) (.slice W d.closed.length k5);obtain ⟨x2,hx2⟩:∃ z,x1.setCell ⟨w.heap.size,13,none⟩ (.slice W d.closed.length k5)=z:=⟨_,rfl⟩;rw [hx2] at B D ⊢;clear hx2;have W4:=Lh_ B.size;have W5:=Lh_ (show BoxL x2 (w.heap.size) [.slice U d.props.length V,.slice h.a1 d.tags.length h.c1,.slice h.a2 d.links.length h.c2,.slice h.a3 d.run.length h.c3,.slice h.a4 d.load.length h.c4,.string d.nm,.int .i64 d.prio,.string d.owner,.string d.group,.int .i64 d.mode,.string d.res,.int .i64 d.calls,.int .i64 d.ticks,.slice W d.closed.length k5] from D);have Q4:=Lh_ (X1.out.grown B X1.out.size (fun q hq=>by have:=Option.some.inj hq;omega));have G2:=Lh_ (Nat.le_trans F2.out B.size);have T2:=Lh_ (S2.out.apart B (fun q hq e=>by have:=Option.some.inj e;have:=R.out q hq;have:=C.out;omega));have W3:=Lh_ (V3.out.apart B (fun q hq e=>by have:=Option.some.inj e;have:=T.out q hq;have:=C.out;omega));clear B D;refine hK.out _ _ (fun h_=>by cases h_) ?_;clear hK K;try simp only [zP,zA,zB,zC]
 refine wpAnyHL_done (by kernel_rfl) ?_ _;go_upto_region 2 with fail
 refine wp_region_held_late (S:=fun w'=>BoxL w' (w.heap.size) [.slice U d.props.length V,.slice h.a1 d.tags.length h.c1,.slice h.a2 d.links.length h.c2,.slice h.a3 d.run.length h.c3,.slice h.a4 d.load.length h.c4,.string d.nm,.int .i64 d.prio,.string d.owner,.string d.group,.int .i64 d.mode,.string d.res,.int .i64 d.calls,.int .i64 d.ticks,.slice W d.closed.length k5]) (late:=fun i=>decide (13≤i)) (by kernel_rfl) ?_;obtain ⟨we,hwe⟩:∃ z,World.drew x2=z:=⟨_,rfl⟩;rw [hwe];have A:Below x2.heap.size x2 we:=by rw [← hwe];exact below_drewN_self _ _ 1
 clear hwe;have U4:=Lh_ (show x2.heap.size≤we.heap.size from A.size);have Z:=tb_ Q4 A;have O:=kb_ W5 A;have S0:=Lh_ (Nat.le_trans G2.out (A).size);have R2:=Lh_ (OwnsS.below T2.out A);have U3:=Lh_ (OwnsS.below W3.out A);clear A;refine tkL 0 11 (.pointer (some ⟨w.heap.size,1,none⟩)) rfl (fun w' hS=>by go_simp) O.out ?_;try simp only [zP,zA,zB,zC]
 refine tkL 1 12 (.slice h.a1 d.tags.length h.c1) rfl (fun w' hS=>by (have Z0:=hS.1 1 _ rfl;go_simp)) O.out ?_;try simp only [zP,zA,zB,zC]
 refine tkL 3 14 (.pointer (some ⟨w.heap.size,2,none⟩)) rfl (fun w' hS=>by go_simp) O.out ?_;try simp only [zP,zA,zB,zC]
 refine tkL 4 15 (.slice h.a2 d.links.length h.c2) rfl (fun w' hS=>by (have Z0:=hS.1 2 _ rfl;go_simp)) O.out ?_;try simp only [zP,zA,zB,zC]
 refine tkL 6 17 (.pointer (some ⟨w.heap.size,3,none⟩)) rfl (fun w' hS=>by go_simp) O.out ?_;try simp only [zP,zA,zB,zC]
 refine tkL 7 18 (.slice h.a3 d.run.length h.c3) rfl (fun w' hS=>by (have Z0:=hS.1 3 _ rfl;go_simp)) O.out ?_;try simp only [zP,zA,zB,zC]
 refine tkL 9 20 (.pointer (some ⟨w.heap.size,4,none⟩)) rfl (fun w' hS=>by go_simp) O.out ?_;try simp only [zP,zA,zB,zC]
 refine tkL 10 21 (.slice h.a4 d.load.length h.c4) rfl (fun w' hS=>by (have Z0:=hS.1 4 _ rfl;go_simp)) O.out ?_;try simp only [zP,zA,zB,zC]
 refine rdL 2 (o:=⟨some 13,.call ⟨_,_,_⟩,_,_,_,_⟩) rfl (fun K hK=>?_);go_simp;go_at_call 72;refine (CloneT_any h.a1 h.c1 d.tags we w.heap.size Z.out.size (HD.out.keep Z.out).2.1 HL.out.2.1).mono ?_;rintro e' c1_ ⟨A,v1,rfl,E⟩;obtain ⟨E1,k1,H,-⟩:=E.sl;subst H;have L5:=Lh_ (OwnsS.low E Z.out.size);have H0:=Lh_ (show ∀ q,(.slice E1 d.tags.length k1:Value).ownBlock=some q→w1.heap.size≤q∧we.heap.size≤q∧q<c1_.heap.size from fun q hq=>⟨Nat.le_trans S0.out (E.lt q hq).1,E.lt q hq⟩);have L2:=Lh_ (show we.heap.size≤c1_.heap.size from A.size);have J:=tb_ Z A;have V0:=kb_ O A;have A0:=Lh_ (Nat.le_trans S0.out (A).size);have G1:=Lh_ (OwnsS.below R2.out A);have R1:=Lh_ (OwnsS.below U3.out A);clear A E;refine hK.out _ _ (fun _=>V0.out) ?_;clear hK K;try simp only [zP,zA,zB,zC]
 refine tkL 12 23 (.pointer (some ⟨w.heap.size,1,none⟩)) rfl (fun w' hS=>by go_simp) V0.out ?_;try simp only [zP,zA,zB,zC]
 refine rdL 5 (o:=⟨some 16,.call ⟨_,_,_⟩,_,_,_,_⟩) rfl (fun K hK=>?_);go_simp;go_at_call 72;refine (CloneT_any h.a2 h.c2 d.links c1_ w.heap.size J.out.size (HD.out.keep J.out).2.2.1 HL.out.2.2.1).mono ?_;rintro e' c2_ ⟨A,v2,rfl,E⟩;obtain ⟨E2,k2,H,-⟩:=E.sl;subst H;have M5:=Lh_ (OwnsS.low E J.out.size);have I0:=Lh_ (show ∀ q,(.slice E2 d.links.length k2:Value).ownBlock=some q→w1.heap.size≤q∧c1_.heap.size≤q∧q<c2_.heap.size from fun q hq=>⟨Nat.le_trans A0.out (E.lt q hq).1,E.lt q hq⟩);have M2:=Lh_ (show c1_.heap.size≤c2_.heap.size from A.size);have L:=tb_ J A;have C2:=kb_ V0 A;have B0:=Lh_ (Nat.le_trans A0.out (A).size);have H1:=Lh_ (OwnsS.below G1.out A);have S1:=Lh_ (OwnsS.below R1.out A);have L1:=Lh_ (OwnsS.below L5.out A);clear A E;refine hK.out _ _ (fun _=>C2.out) ?_;clear hK K;try simp only [zP,zA,zB,zC]
 refine rdL 8 (o:=⟨some 19,.call ⟨_,_,_⟩,_,_,_,_⟩) rfl (fun K hK=>?_);go_simp;go_at_call 72;refine (CloneT_any h.a3 h.c3 d.run c2_ w.heap.size L.out.size (HD.out.keep L.out).2.2.2.1 HL.out.2.2.2.1).mono ?_;rintro e' c3_ ⟨A,v3,rfl,E⟩;obtain ⟨E3,k3,H,-⟩:=E.sl;subst H;have N5:=Lh_ (OwnsS.low E L.out.size);have J0:=Lh_ (show ∀ q,(.slice E3 d.run.length k3:Value).ownBlock=some q→w1.heap.size≤q∧c2_.heap.size≤q∧q<c3_.heap.size from fun q hq=>⟨Nat.le_trans B0.out (E.lt q hq).1,E.lt q hq⟩);have N2:=Lh_ (show c2_.heap.size≤c3_.heap.size from A.size);have M:=tb_ L A;have D2:=kb_ C2 A;have C0:=Lh_ (Nat.le_trans B0.out (A).size);have I1:=Lh_ (OwnsS.below H1.out A);have T1:=Lh_ (OwnsS.below S1.out A);have M1:=Lh_ (OwnsS.below L1.out A);have O1:=Lh_ (OwnsS.below M5.out A);clear A E;refine hK.out _ _ (fun _=>D2.out) ?_;clear hK K;try simp only [zP,zA,zB,zC]
 refine rdL 11 (o:=⟨some 22,.call ⟨_,_,_⟩,_,_,_,_⟩) rfl (fun K hK=>?_);go_simp;go_at_call 72;refine (CloneT_any h.a4 h.c4 d.load c3_ w.heap.size M.out.size (HD.out.keep M.out).2.2.2.2.1 HL.out.2.2.2.2.1).mono ?_;rintro e' c4_ ⟨A,v4,rfl,E⟩;obtain ⟨E4,k4,H,-⟩:=E.sl;subst H;have O5:=Lh_ (OwnsS.low E M.out.size);have K0:=Lh_ (show ∀ q,(.slice E4 d.load.length k4:Value).ownBlock=some q→w1.heap.size≤q∧c3_.heap.size≤q∧q<c4_.heap.size from fun q hq=>⟨Nat.le_trans C0.out (E.lt q hq).1,E.lt q hq⟩);have O2:=Lh_ (show c3_.heap.size≤c4_.heap.size from A.size);have P0:=tb_ M A;have D0:=kb_ D2 A;have D1:=Lh_ (Nat.le_trans C0.out (A).size);have J1:=Lh_ (OwnsS.below I1.out A);have U1:=Lh_ (OwnsS.below T1.out A);have N1:=Lh_ (OwnsS.below M1.out A);have P1:=Lh_ (OwnsS.below O1.out A);have Q1:=Lh_ (OwnsS.below N5.out A);clear A E;refine hK.out _ _ (fun _=>D0.out) ?_;clear hK K;try simp only [zP,zA,zB,zC]
 refine rdL 13 (o:=⟨none,.store _ _ _,_,_,_,_⟩) rfl (fun K hK=>?_);have D4:=D0.out.1 1 _ rfl;have G:=D0.out.2.1;go_simp;clear D4 G;have B:=grown_one c4_ (w.heap.size) 1 (.slice E1 d.tags.length k1);have D:=D0.out.set_ (j:=1) (by first | (simp;done) | decide) (.slice E1 d.tags.length k1);obtain ⟨x3,hx3⟩:∃ z,c4_.setCell ⟨w.heap.size,1,none⟩ (.slice E1 d.tags.length k1)=z:=⟨_,rfl⟩;rw [hx3] at B D ⊢;clear hx3;have X4:=Lh_ B.size;have J4:=Lh_ (show BoxL x3 (w.heap.size) [.slice U d.props.length V,.slice E1 d.tags.length k1,.slice h.a2 d.links.length h.c2,.slice h.a3 d.run.length h.c3,.slice h.a4 d.load.length h.c4,.string d.nm,.int .i64 d.prio,.string d.owner,.string d.group,.int .i64 d.mode,.string d.res,.int .i64 d.calls,.int .i64 d.ticks,.slice W d.closed.length k5] from D);have Y1:=Lh_ (P0.out.grown B P0.out.size (fun q hq=>by have:=Option.some.inj hq;omega));have H2:=Lh_ (Nat.le_trans D1.out B.size);have U2:=Lh_ (J1.out.apart B (fun q hq e=>by have:=Option.some.inj e;have:=R.out q hq;have:=C.out;omega));have X3:=Lh_ (U1.out.apart B (fun q hq e=>by have:=Option.some.inj e;have:=T.out q hq;have:=C.out;omega));have Z2:=Lh_ (N1.out.apart B (fun q hq e=>by have:=Option.some.inj e;have:=H0.out q hq;have:=C.out;omega));have F3:=Lh_ (P1.out.apart B (fun q hq e=>by have:=Option.some.inj e;have:=I0.out q hq;have:=C.out;omega));have K3:=Lh_ (Q1.out.apart B (fun q hq e=>by have:=Option.some.inj e;have:=J0.out q hq;have:=C.out;omega));have P3:=Lh_ (O5.out.apart B (fun q hq e=>by have:=Option.some.inj e;have:=K0.out q hq;have:=C.out;omega));clear B D;refine hK.out _ _ (fun h_=>by cases h_) ?_;clear hK K;try simp only [zP,zA,zB,zC]
 refine rdL 14 (o:=⟨some 24,.fieldAddr _ _ _,_,_,_,_⟩) rfl (fun K hK=>?_);go_simp;refine hK.out _ _ (fun h_=>by cases h_) ?_;clear hK K;try simp only [zP,zA,zB,zC]
 refine rdL 15 (o:=⟨none,.store _ _ _,_,_,_,_⟩) rfl (fun K hK=>?_);have F4:=J4.out.1 2 _ rfl;have G:=J4.out.2.1;go_simp;clear F4 G;have B:=grown_one x3 (w.heap.size) 2 (.slice E2 d.links.length k2);have D:=J4.out.set_ (j:=2) (by first | (simp;done) | decide) (.slice E2 d.links.length k2);obtain ⟨x4,hx4⟩:∃ z,x3.setCell ⟨w.heap.size,2,none⟩ (.slice E2 d.links.length k2)=z:=⟨_,rfl⟩;rw [hx4] at B D ⊢;clear hx4;have Y4:=Lh_ B.size;have K4:=Lh_ (show BoxL x4 (w.heap.size) [.slice U d.props.length V,.slice E1 d.tags.length k1,.slice E2 d.links.length k2,.slice h.a3 d.run.length h.c3,.slice h.a4 d.load.length h.c4,.string d.nm,.int .i64 d.prio,.string d.owner,.string d.group,.int .i64 d.mode,.string d.res,.int .i64 d.calls,.int .i64 d.ticks,.slice W d.closed.length k5] from D);have Z1:=Lh_ (Y1.out.grown B Y1.out.size (fun q hq=>by have:=Option.some.inj hq;omega));have I2:=Lh_ (Nat.le_trans H2.out B.size);have V2:=Lh_ (U2.out.apart B (fun q hq e=>by have:=Option.some.inj e;have:=R.out q hq;have:=C.out;omega));have Y3:=Lh_ (X3.out.apart B (fun q hq e=>by have:=Option.some.inj e;have:=T.out q hq;have:=C.out;omega));have A3:=Lh_ (Z2.out.apart B (fun q hq e=>by have:=Option.some.inj e;have:=H0.out q hq;have:=C.out;omega));have G3:=Lh_ (F3.out.apart B (fun q hq e=>by have:=Option.some.inj e;have:=I0.out q hq;have:=C.out;omega));have L3:=Lh_ (K3.out.apart B (fun q hq e=>by have:=Option.some.inj e;have:=J0.out q hq;have:=C.out;omega));have Q3:=Lh_ (P3.out.apart B (fun q hq e=>by have:=Option.some.inj e;have:=K0.out q hq;have:=C.out;omega));clear B D;refine hK.out _ _ (fun h_=>by cases h_) ?_;clear hK K;try simp only [zP,zA,zB,zC]
 refine rdL 16 (o:=⟨some 25,.fieldAddr _ _ _,_,_,_,_⟩) rfl (fun K hK=>?_);go_simp;refine hK.out _ _ (fun h_=>by cases h_) ?_;clear hK K;try simp only [zP,zA,zB,zC]
 refine rdL 17 (o:=⟨none,.store _ _ _,_,_,_,_⟩) rfl (fun K hK=>?_);have G4:=K4.out.1 3 _ rfl;have G:=K4.out.2.1;go_simp;clear G4 G;have B:=grown_one x4 (w.heap.size) 3 (.slice E3 d.run.length k3);have D:=K4.out.set_ (j:=3) (by first | (simp;done) | decide) (.slice E3 d.run.length k3);obtain ⟨x5,hx5⟩:∃ z,x4.setCell ⟨w.heap.size,3,none⟩ (.slice E3 d.run.length k3)=z:=⟨_,rfl⟩;rw [hx5] at B D ⊢;clear hx5;have Z4:=Lh_ B.size;have L4:=Lh_ (show BoxL x5 (w.heap.size) [.slice U d.props.length V,.slice E1 d.tags.length k1,.slice E2 d.links.length k2,.slice E3 d.run.length k3,.slice h.a4 d.load.length h.c4,.string d.nm,.int .i64 d.prio,.string d.owner,.string d.group,.int .i64 d.mode,.string d.res,.int .i64 d.calls,.int .i64 d.ticks,.slice W d.closed.length k5] from D);have A2:=Lh_ (Z1.out.grown B Z1.out.size (fun q hq=>by have:=Option.some.inj hq;omega));have J2:=Lh_ (Nat.le_trans I2.out B.size);have W2:=Lh_ (V2.out.apart B (fun q hq e=>by have:=Option.some.inj e;have:=R.out q hq;have:=C.out;omega));have Z3:=Lh_ (Y3.out.apart B (fun q hq e=>by have:=Option.some.inj e;have:=T.out q hq;have:=C.out;omega));have B3:=Lh_ (A3.out.apart B (fun q hq e=>by have:=Option.some.inj e;have:=H0.out q hq;have:=C.out;omega));have H3:=Lh_ (G3.out.apart B (fun q hq e=>by have:=Option.some.inj e;have:=I0.out q hq;have:=C.out;omega));have M3:=Lh_ (L3.out.apart B (fun q hq e=>by have:=Option.some.inj e;have:=J0.out q hq;have:=C.out;omega));have R3:=Lh_ (Q3.out.apart B (fun q hq e=>by have:=Option.some.inj e;have:=K0.out q hq;have:=C.out;omega));clear B D;refine hK.out _ _ (fun h_=>by cases h_) ?_;clear hK K;try simp only [zP,zA,zB,zC]
 refine rdL 18 (o:=⟨some 26,.fieldAddr _ _ _,_,_,_,_⟩) rfl (fun K hK=>?_);go_simp;refine hK.out _ _ (fun h_=>by cases h_) ?_;clear hK K;try simp only [zP,zA,zB,zC]
 refine rdL 19 (o:=⟨none,.store _ _ _,_,_,_,_⟩) rfl (fun K hK=>?_);have H4:=L4.out.1 4 _ rfl;have G:=L4.out.2.1;go_simp;clear H4 G;have B:=grown_one x5 (w.heap.size) 4 (.slice E4 d.load.length k4);have D:=L4.out.set_ (j:=4) (by first | (simp;done) | decide) (.slice E4 d.load.length k4);obtain ⟨x6,hx6⟩:∃ z,x5.setCell ⟨w.heap.size,4,none⟩ (.slice E4 d.load.length k4)=z:=⟨_,rfl⟩;rw [hx6] at B D ⊢;clear hx6;have A5:=Lh_ B.size;have X5:=Lh_ (show BoxL x6 (w.heap.size) [.slice U d.props.length V,.slice E1 d.tags.length k1,.slice E2 d.links.length k2,.slice E3 d.run.length k3,.slice E4 d.load.length k4,.string d.nm,.int .i64 d.prio,.string d.owner,.string d.group,.int .i64 d.mode,.string d.res,.int .i64 d.calls,.int .i64 d.ticks,.slice W d.closed.length k5] from D);have R4:=Lh_ (A2.out.grown B A2.out.size (fun q hq=>by have:=Option.some.inj hq;omega));have J5:=Lh_ (Nat.le_trans J2.out B.size);have X2:=Lh_ (W2.out.apart B (fun q hq e=>by have:=Option.some.inj e;have:=R.out q hq;have:=C.out;omega));have A4:=Lh_ (Z3.out.apart B (fun q hq e=>by have:=Option.some.inj e;have:=T.out q hq;have:=C.out;omega));have C3:=Lh_ (B3.out.apart B (fun q hq e=>by have:=Option.some.inj e;have:=H0.out q hq;have:=C.out;omega));have I3:=Lh_ (H3.out.apart B (fun q hq e=>by have:=Option.some.inj e;have:=I0.out q hq;have:=C.out;omega));have N3:=Lh_ (M3.out.apart B (fun q hq e=>by have:=Option.some.inj e;have:=J0.out q hq;have:=C.out;omega));have S3:=Lh_ (R3.out.apart B (fun q hq e=>by have:=Option.some.inj e;have:=K0.out q hq;have:=C.out;omega));clear B D;refine hK.out _ _ (fun h_=>by cases h_) ?_;clear hK K;try simp only [zP,zA,zB,zC]
 refine wpAnyHL_done (by kernel_rfl) ?_ _;obtain ⟨C4,D4,F4,G4,H4,R5,S5,T5,U5,V5,B5,C5,D5,T0⟩:=s14_ X5.out.1;obtain ⟨w2,hw2⟩:∃ z,x6.alloc (.cells #[.slice U d.props.length V,.slice E1 d.tags.length k1,.slice E2 d.links.length k2,.slice E3 d.run.length k3,.slice E4 d.load.length k4,.string d.nm,.int .i64 d.prio,.string d.owner,.string d.group,.int .i64 d.mode,.string d.res,.int .i64 d.calls,.int .i64 d.ticks,.slice W d.closed.length k5] 65)=z:=⟨_,rfl⟩;have Q:Below x6.heap.size x6 w2:=by rw [← hw2];exact (Below.refl _ _).alloc (Nat.le_refl _) _
 have S4:=Lh_ (show w2.heap.size=x6.heap.size+1 by rw [← hw2];simp);have Q5:=Lh_ (show BoxL w2 x6.heap.size [.slice U d.props.length V,.slice E1 d.tags.length k1,.slice E2 d.links.length k2,.slice E3 d.run.length k3,.slice E4 d.load.length k4,.string d.nm,.int .i64 d.prio,.string d.owner,.string d.group,.int .i64 d.mode,.string d.res,.int .i64 d.calls,.int .i64 d.ticks,.slice W d.closed.length k5] from box_mk hw2);go_wp2;try rw [hw2]
 clear hw2 C4 D4 F4 G4 H4 R5 S5 T5 U5 V5 B5 C5 D5 T0;have A6:=Lh_ (show x6.heap.size≤w2.heap.size from Q.size);have W1:=tb_ R4 Q;have Q2:=Lh_ (OwnsS.below X2.out Q);have T3:=Lh_ (OwnsS.below A4.out Q);have Y2:=Lh_ (OwnsS.below C3.out Q);have D3:=Lh_ (OwnsS.below I3.out Q);have J3:=Lh_ (OwnsS.below N3.out Q);have O3:=Lh_ (OwnsS.below S3.out Q);clear Q;have F:=Lh_ (show c0_.heap.size≤c5_.heap.size∧c5_.heap.size≤we.heap.size∧c1_.heap.size≤c2_.heap.size∧c2_.heap.size≤c3_.heap.size∧c3_.heap.size≤c4_.heap.size∧c4_.heap.size≤x6.heap.size∧w.heap.size≤c0_.heap.size∧c5_.heap.size≤c1_.heap.size∧x6.heap.size<w2.heap.size by have:=S4.out;have:=K2.out;have:=P2.out;have:=V4.out;have:=W4.out;have:=U4.out;have:=L2.out;have:=M2.out;have:=N2.out;have:=O2.out;have:=X4.out;have:=Y4.out;have:=Z4.out;have:=A5.out;have:=C.out;have:=N.out;omega);have G5:=Lh_ (show EdR 53 9 35 w2 w.heap.size x6.heap.size d (.slice U d.props.length V) (.slice E1 d.tags.length k1) (.slice E2 d.links.length k2) (.slice E3 d.run.length k3) (.slice E4 d.load.length k4) (.slice W d.closed.length k5) from EdR.mk6 (s5:=c0_.heap.size) (s1:=c5_.heap.size) (s2:=c1_.heap.size) (s3:=c2_.heap.size) (s4:=c3_.heap.size) Q2.out T3.out Y2.out D3.out J3.out O3.out (fun q hq=>by have:=R.out q hq;have:=F.out;have:=C.out;omega) (fun q hq=>by have:=T.out q hq;have:=F.out;have:=C.out;omega) (fun q hq=>by have:=H0.out q hq;have:=F.out;have:=C.out;omega) (fun q hq=>by have:=I0.out q hq;have:=F.out;have:=C.out;omega) (fun q hq=>by have:=J0.out q hq;have:=F.out;have:=C.out;omega) (fun q hq=>by have:=K0.out q hq;have:=F.out;have:=C.out;omega) (by have:=F.out;omega) (by have:=F.out;omega) (by have:=F.out;omega) (by have:=F.out;omega) (by have:=F.out;omega) (by have:=F.out;omega) (by have:=F.out;omega) H5.out)
 have T4:=Lh_ (show Out (fun k=>k<w.heap.size) w2 x6.heap.size (.slice U d.props.length V) (.slice E1 d.tags.length k1) (.slice E2 d.links.length k2) (.slice E3 d.run.length k3) (.slice E4 d.load.length k4) (.slice W d.closed.length k5) from ⟨fun k hk=>Nat.lt_of_lt_of_le hk W1.out.size,fun hk=>by have h1:x6.heap.size<w.heap.size:=hk;have:=F.out;omega,fun k hk hp=>by have h1:k<w.heap.size:=hp;have:=R.out k hk;have:=C.out;omega,fun k hk hp=>by have h1:k<w.heap.size:=hp;have:=H0.out k hk;have:=C.out;omega,fun k hk hp=>by have h1:k<w.heap.size:=hp;have:=I0.out k hk;have:=C.out;omega,fun k hk hp=>by have h1:k<w.heap.size:=hp;have:=J0.out k hk;have:=C.out;omega,fun k hk hp=>by have h1:k<w.heap.size:=hp;have:=K0.out k hk;have:=C.out;omega,fun k hk hp=>by have h1:k<w.heap.size:=hp;have:=T.out k hk;have:=C.out;omega⟩);go_ret;exact ⟨W1.out,x6.heap.size,by try rfl,_,_,_,_,_,_,Q5.out,G5.out,T4.out⟩
end Go.Cold
