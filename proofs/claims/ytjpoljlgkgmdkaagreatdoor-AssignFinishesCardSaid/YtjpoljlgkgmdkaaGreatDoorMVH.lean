/-
  The walks of the editor's methods of package assign: env,more,tag,mode,run,priority.
-/
import Derived.Test.YtjpoljlgkgmdkaaGreatDoorMJ
set_option linter.unusedSimpArgs false
set_option linter.unusedVariables false
namespace Go.Cold
open Go Go.RowKit Go.Proofs.YtjpoljlgkgmdkaaGreatDoor
open Go.Proofs hiding intOf
theorem setE_skip {d:Draft} {n v:ByteArray} (hs:sortedA d.props=true) (h:baseK n=true∨textB v=false∨(getA d.props n=none∧64≤d.props.length)):setD d n v=d:=(setD_env hs n v).trans (if_pos h)
theorem setE_set {d:Draft} {n v:ByteArray} (hs:sortedA d.props=true) (h:¬ (baseK n=true∨textB v=false∨(getA d.props n=none∧64≤d.props.length))):setD d n v = { d with props:=setA d.props n v }:=(setD_env hs n v).trans (if_neg h)
theorem setE_go {d:Draft} {n v:ByteArray} (hs:sortedA d.props=true) (h1:baseK n=false) (h2:textB v=true) (h3:getA d.props n≠none∨¬ 64≤d.props.length):setD d n v = { d with props:=setA d.props n v }:=setE_set hs (by
 rintro (q | q | q)
 · rw [h1] at q;cases q
 · rw [h2] at q;cases q
 ·
  rcases h3 with h3 | h3
  · exact h3 q.1
  · exact h3 q.2)
theorem none_some {α:Type} {o:Option α} {b:Bool} (h:o.isSome=b):(b=false→o=none)∧(b=true→o≠none):=by cases o <;> cases b <;> simp_all
def moreD (d:Draft) (n v:ByteArray):Draft:=if v.toList.isEmpty=true then d else match getA d.props n with | some old=>setD d n (cutT ((old ++ ⟨#[32]⟩) ++ v)) | none=>setD d n v
theorem more_e {d:Draft} {n v:ByteArray} (h:v.toList.isEmpty=true):moreD d n v=d:=if_pos h
theorem more_n {d:Draft} {n v:ByteArray} (h:v.toList.isEmpty=false) (hg:getA d.props n=none):moreD d n v=setD d n v:=by unfold moreD;rw [if_neg (by rw [h];decide),hg]
theorem more_s {d:Draft} {n v old:ByteArray} (h:v.toList.isEmpty=false) (hg:getA d.props n=some old):moreD d n v=setD d n (cutT ((old ++ ⟨#[32]⟩) ++ v)):=by unfold moreD;rw [if_neg (by rw [h];decide),hg]
def tagD (d:Draft) (op:Int) (v:ByteArray):Draft:=if validB v=false then d else if op=3 then { d with tags:=[v] } else if op=4 then { d with tags:=putT d.tags v 16 } else { d with tags:=withoutT d.tags v }
theorem tag_no {d:Draft} {op:Int} {v:ByteArray} (h:validB v=false):tagD d op v=d:=if_pos h
theorem tag_3 {d:Draft} {op:Int} {v:ByteArray} (h:validB v=true) (h3:op=3):tagD d op v = { d with tags:=[v] }:=by unfold tagD;rw [if_neg (by rw [h];decide),if_pos h3]
theorem tag_4 {d:Draft} {op:Int} {v:ByteArray} (h:validB v=true) (h3:¬ op=3) (h4:op=4):tagD d op v = { d with tags:=putT d.tags v 16 }:=by unfold tagD;rw [if_neg (by rw [h];decide),if_neg h3,if_pos h4]
theorem tag_5 {d:Draft} {op:Int} {v:ByteArray} (h:validB v=true) (h3:¬ op=3) (h4:¬ op=4):tagD d op v = { d with tags:=withoutT d.tags v }:=by unfold tagD;rw [if_neg (by rw [h];decide),if_neg h3,if_neg h4]
theorem own_text1 {F:Nat→Prop} {w w':World} {T:TypeId} {v:ByteArray} (h:w.alloc (.cells #[.string v] T)=w') (hv:v.size≤maxLen):OwnsS F w' w.heap.size T (.slice (some ⟨w.heap.size,0,none⟩) 1 1) [v]:=by
 have A:=World.ownsRow_lit (base:=w.heap.size) (e:=T) (size:=1) w #[.string v] 1 (Nat.le_refl _) (by unfold maxLen;omega) rfl;rw [h] at A;refine ⟨[[.string v]],A,rfl,fun i x cs hx hcs=>?_⟩;have B:i=0:=by have:=(List.getElem?_eq_some_iff.1 hx).1;simp at this;exact this
 subst B;obtain rfl:=Option.some.inj hx;obtain rfl:=Option.some.inj hcs;exact ⟨rfl,hv⟩
set_option maxRecDepth 100000 in
set_option maxHeartbeats 4000000 in
theorem env_any (P:Nat→Prop) (base X:Nat) (d:Draft) (n v:ByteArray) (w:World) (he:EdQ 53 9 35 P w base X d) (hs:sortedA d.props=true) (hl:d.props.length≤1000) (hn:n.size≤maxLen) (hv:v.size≤maxLen) :
  Calls Tryz.prog 59 #[.pointer (some ⟨X,0,none⟩),.string n,.string v] w (EPost 53 9 35 P base X (setD d n v) w):=by
 obtain ⟨h,S⟩:=he.open;have V:=Lh_ S;have K:=Lh_ hs;have HL:=Lh_ hl;have HN:=Lh_ hn;have W:=Lh_ hv;clear he S hs hl hn hv;go_enter Tryz.func59,Tryz.ntmps59;have E:=V.out.2.1.1 0 _ rfl;go_wp2_with fail;refine (Get_any h.a0 h.c0 d.props n _ w.heap.size (Nat.le_refl _) V.out.2.2.2.2.1).mono ?_;rintro e w1 ⟨rfl,F⟩;clear E;have D0:=Lh_ (show w.heap.size≤w1.heap.size from F.size);have Q:=Lh_ F;have R:=Lh_ (EdO.below V.out F);clear F;obtain ⟨so,h_⟩:∃ z,(getA d.props n).getD ByteArray.empty=z:=⟨_,rfl⟩;rw [h_];have G0:=Lh_ h_;clear h_;obtain ⟨bo,h_⟩:∃ z,(getA d.props n).isSome=z:=⟨_,rfl⟩;rw [h_];have O:=Lh_ h_;clear h_;go_wp2_with fail;refine (BKey_any n _).mono ?_;rintro e w2 ⟨rfl,G⟩;have E0:=Lh_ (show w1.heap.size≤w2.heap.size from G.size);have A0:=tb_ Q G;have A:=Lh_ (EdO.below R.out G);clear G;obtain ⟨bk,h_⟩:∃ z,baseK n=z:=⟨_,rfl⟩;rw [h_];have J:=Lh_ h_;clear h_;cases bk
 case false =>
  go_wp2_with fail;refine (Text_any v _ W.out).mono ?_;rintro e w_ ⟨rfl,T⟩;rw [← T];clear T w_;obtain ⟨tx,h_⟩:∃ z,textB v=z:=⟨_,rfl⟩;rw [h_];have L:=Lh_ h_;clear h_;cases tx
  case false =>
   have I:=Lh_ (setE_skip (n:=n) K.out (.inr (.inl L.out)));go_wp2;go_end0
   exact ⟨rfl,by rw [I.out];exact A.out.kq⟩
  cases bo
  case false =>
   by_cases h64:64≤d.props.length
   ·
    have Z:(64:Int)≤(d.props.length:Int):=by omega
    have I:=Lh_ (setE_skip (v:=v) K.out (.inr (.inr ⟨(none_some O.out).1 rfl,h64⟩)));clear h64;have E:=A.out.2.1.1 0 _ rfl;go_wp2;go_end0
    exact ⟨rfl,by rw [I.out];exact A.out.kq⟩
   have Z:¬ (64:Int)≤(d.props.length:Int):=by omega
   have U:=Lh_ h64;clear h64;have I:=Lh_ (setE_go (n:=n) (v:=v) K.out J.out L.out (.inr U.out));have E:=A.out.2.1.1 0 _ rfl;go_wp2_with fail;refine (DSet_any h.a0 h.c0 d.props n v _ w2.heap.size (Nat.le_refl _) A.out.2.2.2.2.1 K.out HL.out HN.out W.out).mono ?_;rintro e w9 ⟨D,v9,rfl,B⟩;have M:=D;obtain ⟨A9,c9,N,-⟩:=B.sl;subst N;have C:=A.out.2.1.kept (grown_none D) (fun e=>by cases e);have H:=Lh_ (EdO.row0 A.out (B.low (Nat.le_of_lt (Nat.lt_of_le_of_lt A.out.2.2.1.bx A.out.2.2.1.xl))) (grown_wide (grown_none D)) (fun q hq=>.inr (B.lt q hq).1));clear E;have E:=C.1 0 _ rfl;have Y:=C.2.1;clear B C M D;go_wp2;go_end0
   exact ⟨rfl,by rw [I.out];exact H.out⟩
  have I:=Lh_ (setE_go (n:=n) (v:=v) K.out J.out L.out (.inl ((none_some O.out).2 rfl)));have E:=A.out.2.1.1 0 _ rfl;go_wp2_with fail;refine (DSet_any h.a0 h.c0 d.props n v _ w2.heap.size (Nat.le_refl _) A.out.2.2.2.2.1 K.out HL.out HN.out W.out).mono ?_;rintro e w9 ⟨D,v9,rfl,B⟩;have M:=D;obtain ⟨A9,c9,N,-⟩:=B.sl;subst N;have C:=A.out.2.1.kept (grown_none D) (fun e=>by cases e);have H:=Lh_ (EdO.row0 A.out (B.low (Nat.le_of_lt (Nat.lt_of_le_of_lt A.out.2.2.1.bx A.out.2.2.1.xl))) (grown_wide (grown_none D)) (fun q hq=>.inr (B.lt q hq).1));clear E;have E:=C.1 0 _ rfl;have Y:=C.2.1;clear B C M D;go_wp2;go_end0
  exact ⟨rfl,by rw [I.out];exact H.out⟩
 have I:=Lh_ (setE_skip (v:=v) K.out (.inl J.out));go_wp2;go_end0
 exact ⟨rfl,by rw [I.out];exact A.out.kq⟩
set_option maxRecDepth 100000 in
set_option maxHeartbeats 4000000 in
theorem tag_any (P:Nat→Prop) (base X:Nat) (d:Draft) (op:Int) (v:ByteArray) (w:World) (he:EdQ 53 9 35 P w base X d) (ha:ascL d.tags=true) (hl:d.tags.length≤1000) (hv:v.size≤maxLen) (hop:op=3∨op=4∨op=5) :
  Calls Tryz.prog 75 #[.pointer (some ⟨X,0,none⟩),.int .i64 op,.string v] w (EPost 53 9 35 P base X (tagD d op v) w):=by
 obtain ⟨h,Q⟩:=he.open;have HO:=Lh_ Q;have W:=Lh_ hl;have S:=Lh_ hv;have HA:=Lh_ ha;have R:=Lh_ hop;clear he Q hl hv ha hop;go_enter Tryz.func75,Tryz.ntmps75;go_wp2_with fail;refine (Valid_any v _ S.out).mono ?_;rintro e w1 ⟨rfl,G⟩;have Y:=Lh_ (show w.heap.size≤w1.heap.size from G.size);have V:=Lh_ G;have A:=Lh_ (EdO.below HO.out G);clear G;obtain ⟨bv,h_⟩:∃ z,validB v=z:=⟨_,rfl⟩;rw [h_];have J:=Lh_ h_;clear h_;cases bv
 case false =>
  have K:=Lh_ (tag_no (d:=d) (op:=op) J.out);go_wp2;go_end0
  exact ⟨rfl,by rw [K.out];exact A.out.kq⟩
 by_cases o3:op=3
 ·
  have T:(op == 3)=true:=by rw [o3];rfl
  have K:=Lh_ (tag_3 (d:=d) J.out o3);clear o3;obtain ⟨w8,hw8⟩:∃ z,w1.alloc (.cells #[.string v] 9)=z:=⟨_,rfl⟩;have L:Below w1.heap.size w1 w8:=by rw [← hw8];exact (Below.refl _ _).alloc (Nat.le_refl _) _
  have M:=own_text1 (F:=fun _=>False) hw8 S.out;have B:=A.out.2.1.kept (grown_none L) (fun e=>by cases e);have D:=Lh_ (EdO.row1 A.out (M.low (Nat.le_of_lt (Nat.lt_of_le_of_lt A.out.2.2.1.bx A.out.2.2.1.xl))) (grown_wide (grown_none L)) (fun q hq=>.inr (M.lt q hq).1));have H:=B.1 1 _ rfl;have O:=B.2.1;clear M L B;go_wp2;go_end0
  exact ⟨rfl,by rw [K.out];exact D.out⟩
 have T:(op == 3)=false:=by simpa using o3
 by_cases o4:op=4
 ·
  have U:(op == 4)=true:=by rw [o4];rfl
  have K:=Lh_ (tag_4 (d:=d) J.out o3 o4);clear o3 o4;have H:=A.out.2.1.1 1 _ rfl;go_wp2_with fail;refine (put_any base _ d.tags v _ A.out.2.2.1.o1 HA.out W.out S.out (Nat.le_of_lt (Nat.lt_of_le_of_lt A.out.2.2.1.bx A.out.2.2.1.xl))).mono ?_;rintro e w9 ⟨v9,rfl,C,E,I⟩;obtain ⟨A9,c9,N,-⟩:=C.sl;subst N;have B:=A.out.2.1.kept E (fun e=>A.out.2.2.1.x1 e.symm);have D:=Lh_ (EdO.row1 A.out C E I);clear H;have H:=B.1 1 _ rfl;have O:=B.2.1;clear C B E I;go_wp2;go_end0
  exact ⟨rfl,by rw [K.out];exact D.out⟩
 have U:(op == 4)=false:=by simpa using o4
 have Z:op=5:=by have:=R.out;omega
 have E0:(op == 5)=true:=by rw [Z];rfl
 have K:=Lh_ (tag_5 (d:=d) J.out o3 o4);clear o3 o4 Z;have H:=A.out.2.1.1 1 _ rfl;go_wp2_with fail;refine (dropE_any base _ d.tags v _ A.out.2.2.1.o1 W.out (Nat.le_of_lt (Nat.lt_of_le_of_lt A.out.2.2.1.bx A.out.2.2.1.xl))).mono ?_;rintro e w9 ⟨v9,rfl,C,E,I⟩;obtain ⟨A9,c9,N,-⟩:=C.sl;subst N;have B:=A.out.2.1.kept E (fun e=>A.out.2.2.1.x1 e.symm);have D:=Lh_ (EdO.row1 A.out C E I);clear H;have H:=B.1 1 _ rfl;have O:=B.2.1;clear C B E I;go_wp2;go_end0
 exact ⟨rfl,by rw [K.out];exact D.out⟩
theorem good_size {xs:List Attr} (h:∀ a ∈ xs,goodA a) {n v:ByteArray} (hg:getA xs n=some v):v.size≤256:=by
 have:=(h _ (getA_mem hg)).2.1;unfold textB at this;rw [Bool.and_eq_true] at this;exact of_decide_eq_true this.2
def runD (d:Draft) (op:Int) (v:ByteArray):Draft:={ d with run:=(if fullT v=true∧(if op≠4 then [] else d.run).length<16 then (if op≠4 then [] else d.run) ++ [v] else (if op≠4 then [] else d.run)) }
theorem run_4n {d:Draft} {op:Int} {v:ByteArray} (h:op=4) (hn:¬ (fullT v=true∧d.run.length<16)):runD d op v=d:=by
 unfold runD;rw [if_neg (show ¬ op≠4 from fun h1=>h1 h),if_neg hn]
theorem run_4y {d:Draft} {op:Int} {v:ByteArray} (h:op=4) (hn:fullT v=true∧d.run.length<16):runD d op v = { d with run:=d.run ++ [v] }:=by
 unfold runD;rw [if_neg (show ¬ op≠4 from fun h1=>h1 h),if_pos hn]
theorem run_0n {d d1:Draft} {op:Int} {v:ByteArray} (h:¬ op=4) (h1 : { d with run:=[] }=d1) (hn:fullT v=false):runD d op v=d1:=by
 unfold runD;rw [if_pos h,if_neg (by rw [hn];rintro ⟨q,_⟩;cases q),h1]
theorem run_0y {d d1:Draft} {op:Int} {v:ByteArray} (h:¬ op=4) (h1 : { d with run:=[] }=d1) (hn:fullT v=true):runD d op v = { d1 with run:=d1.run ++ [v] }:=by
 subst h1;unfold runD;rw [if_pos h,if_pos ⟨hn,by simp⟩]
def modeD (d:Draft) (v:ByteArray):Draft:=match octT v with | some n=>{ d with mode:=n } | none=>d
theorem mode_y {d:Draft} {v:ByteArray} {n:Int} (h:puT v=some n) (hs:v.size≤4):modeD d v = { d with mode:=n }:=by
 have:=mode_same v;rw [if_pos hs,h] at this;unfold modeD;rw [← this]
theorem mode_n {d:Draft} {v:ByteArray} (h:puT v=none∨¬ v.size≤4):modeD d v=d:=by
 have:=mode_same v;have A:octT v=none:=by
  rw [← this];split
  ·
   rcases h with h | h
   · exact h
   contradiction
  rfl
 unfold modeD;rw [A]
def prioD (d:Draft) (v:ByteArray):Draft:=match prioT v with | some n=>{ d with prio:=n } | none=>d
theorem prio_y {d:Draft} {v:ByteArray} {n:Int} (h:Lib.atoiAll v.data.toList=.ok n) (hi:Lib.itoa n=v.data.toList) (hr : -1000≤n∧n≤1000):prioD d v = { d with prio:=n }:=by
 have A:numP v=some n:=by unfold numP;rw [h];exact if_pos hi
 have:=prio_same v;rw [A] at this;simp only at this;rw [if_pos hr] at this;unfold prioD;rw [← this]
theorem prio_n {d:Draft} {v:ByteArray} (h:(numP v).isNone=true∨∃ n,Lib.atoiAll v.data.toList=.ok n∧(¬ Lib.itoa n=v.data.toList∨¬ (-1000≤n∧n≤1000))):prioD d v=d:=by
 have:=prio_same v;have A:prioT v=none:=by
  rw [← this];cases hn:numP v with
  | none=>rfl
  | some m =>
   rcases h with h | ⟨n,h1,h3⟩
   · rw [hn] at h;cases h
   unfold numP at hn;rw [h1] at hn;simp only at hn;split at hn
   ·
    obtain rfl:=Option.some.inj hn
    rcases h3 with h3 | h3
    · contradiction
    simp only;rw [if_neg h3]
   cases hn
 unfold prioD;rw [A]
set_option maxRecDepth 100000 in
set_option maxHeartbeats 4000000 in
theorem more_any (P:Nat→Prop) (base X:Nat) (d:Draft) (n v:ByteArray) (w:World) (he:EdQ 53 9 35 P w base X d) (hs:sortedA d.props=true) (hl:d.props.length≤1000) (hg:∀ a ∈ d.props,goodA a) (hn:n.size≤maxLen) (hv:v.size≤1000) :
  Calls Tryz.prog 74 #[.pointer (some ⟨X,0,none⟩),.string n,.string v] w (EPost 53 9 35 P base X (moreD d n v) w):=by
 obtain ⟨h,I⟩:=he.open;have J:=Lh_ I;have R:=Lh_ hs;have O:=Lh_ hl;have W:=Lh_ hg;have Q:=Lh_ hn;have U:=Lh_ hv;clear he I hs hl hg hn hv;go_enter Tryz.func74,Tryz.ntmps74;have M:=J.out.2.1.1 0 _ rfl;go_wp2_with fail;refine (Get_any h.a0 h.c0 d.props n _ w.heap.size (Nat.le_refl _) J.out.2.2.2.2.1).mono ?_;rintro e w1 ⟨rfl,B⟩;clear M;have S:=Lh_ (show w.heap.size≤w1.heap.size from B.size);have N:=Lh_ B;have A:=Lh_ (EdO.below J.out B);clear B;obtain ⟨og,h_⟩:∃ z,getA d.props n=z:=⟨_,rfl⟩;rw [h_];have G:=Lh_ h_;clear h_;by_cases hve:v.toList.isEmpty=true
 ·
  obtain ⟨p1,p2⟩:=emptiesR hve;have F:=Lh_ hve;clear hve;have H:=Lh_ (more_e (d:=d) (n:=n) F.out);go_wp2;go_end0
  exact ⟨rfl,by rw [H.out];exact A.out.kq⟩
 have E:v.toList.isEmpty=false:=by simpa using hve
 obtain ⟨p1,p2⟩:=emptiesR E;have F:=Lh_ E;clear hve E;cases og
 case none =>
  simp only [Option.getD_none,Option.isSome_none];have H:=Lh_ (more_n F.out G.out);go_wp2_with fail;refine (env_any P base X d n v _ A.out.kq.2 R.out O.out Q.out (by have:=U.out;unfold maxLen;omega)).mono ?_;rintro e w' ⟨rfl,D⟩;have C:=Lh_ (EdO.seq A.out D);clear D;go_wp2;go_end0
  exact ⟨rfl,by rw [H.out];exact C.out⟩
 case some old =>
  simp only [Option.getD_some,Option.isSome_some];have Y:=good_size W.out G.out;have Z:=U.out;have f2:¬ 9223372036854775807<old.size+1:=by omega
  have f3:¬ 9223372036854775807<old.size+1+v.size:=by omega
  go_upto_region 4 with fail
  obtain ⟨sx,hsx⟩:∃ z,(old ++ ⟨#[32]⟩) ++ v=z:=⟨_,rfl⟩;try rw [hsx]
  have K:=Lh_ hsx;have f4:sx.size≤100000:=by rw [← hsx,ByteArray.size_append,ByteArray.size_append,show (⟨#[32]⟩:ByteArray).size=1 from rfl];omega
  clear hsx Y Z f2 f3;have V:min (sx.size:Int) 256=((min sx.size 256:Nat):Int):=by omega
  obtain ⟨t,ht⟩:∃ z,sx.extract 0 (min sx.size 256)=z:=⟨_,rfl⟩;have T:=Lh_ (show cutT sx=t from ht);have L:=Lh_ (show t.size≤maxLen by rw [← T.out,cut_size];unfold maxLen;omega);have H:=Lh_ (show moreD d n v=setD d n t by rw [more_s F.out G.out,K.out,T.out]);go_wp2_with fail;refine (env_any P base X d n t _ A.out.kq.2 R.out O.out Q.out L.out).mono ?_;rintro e w' ⟨rfl,D⟩;have C:=Lh_ (EdO.seq A.out D);clear D;go_wp2;go_end0
  exact ⟨rfl,by rw [H.out];exact C.out⟩
set_option maxRecDepth 100000 in
set_option maxHeartbeats 4000000 in
theorem mode_any (P:Nat→Prop) (base X:Nat) (d:Draft) (v:ByteArray) (w:World) (he:EdQ 53 9 35 P w base X d) (hv:v.size≤1000) (h7:Ok7 w) :
  Calls Tryz.prog 79 #[.pointer (some ⟨X,0,none⟩),.string v] w (EPost 53 9 35 P base X (modeD d v) w):=by
 obtain ⟨h,C⟩:=he.open;have J:=Lh_ C;have O:=Lh_ hv;have N:=Lh_ h7;clear he C hv h7;go_enter Tryz.func79,Tryz.ntmps79;have G:=Lh_ J.out.kq.2.ok;go_wp2_with fail;refine (Pu_any v _ N.out (by have:=O.out;omega)).mono ?_;rintro e w1 ⟨F,x,T,rfl,H⟩;have K:=Lh_ (show w.heap.size≤w1.heap.size from F.size);have I:=Lh_ F;have A:=Lh_ (EdO.below J.out F);clear F;rcases H with ⟨hp,rfl⟩ | ⟨hp,te,pe,rfl⟩
 ·
  by_cases h4:v.size≤4
  ·
   have S:(v.size:Int)≤4:=by omega
   have D:=Lh_ (mode_y (d:=d) hp h4);have C:octT v=some x:=by rw [← mode_same v,if_pos h4];exact hp
   obtain ⟨U,V⟩:=oct_range C;have B:=G.out;have E:=Lh_ (EdK.f_mode (x:=x) A.out.kq ⟨B.1,B.2.1,B.2.2.1,B.2.2.2.1,okI_small (by show -100000≤x;omega) (by show x≤100000;omega),B.2.2.2.2.2.1,B.2.2.2.2.2.2.1,B.2.2.2.2.2.2.2⟩);have L:IntKind.i64.wrap x=x:=by rw [IntKind.wrap_i64];omega
   have M:wrap64 x=x:=by unfold wrap64;omega
   clear h4 hp C B;have R:=A.out.2.1.1 9 _ rfl;have Q:=A.out.2.1.2.1;go_wp2;go_end0
   exact ⟨rfl,by rw [D.out];exact E.out⟩
  have S:¬ (v.size:Int)≤4:=by omega
  have D:=Lh_ (mode_n (d:=d) (v:=v) (.inr h4));clear h4 hp;go_wp2;go_end0
  exact ⟨rfl,by rw [D.out];exact A.out.kq⟩
 have D:=Lh_ (mode_n (d:=d) (.inl hp));clear hp;go_wp2;go_end0
 exact ⟨rfl,by rw [D.out];exact A.out.kq⟩
set_option maxRecDepth 100000 in
set_option maxHeartbeats 4000000 in
theorem run_any (P:Nat→Prop) (base X:Nat) (d:Draft) (op:Int) (v:ByteArray) (w:World) (he:EdQ 53 9 35 P w base X d) (hl:d.run.length≤1000) (hv:v.size≤1000) :
  Calls Tryz.prog 80 #[.pointer (some ⟨X,0,none⟩),.int .i64 op,.string v] w (EPost 53 9 35 P base X (runD d op v) w):=by
 obtain ⟨h,I0⟩:=he.open;have HO:=Lh_ I0;have HL:=Lh_ hl;have HV:=Lh_ hv;clear he I0 hl hv;go_enter Tryz.func80,Tryz.ntmps80;by_cases o4:op=4
 ·
  have P0:(op == 4)=true:=by rw [o4];rfl
  have L:=Lh_ o4;clear o4;go_wp2_with fail;refine (full_any v _ (by have:=HV.out;unfold maxLen;omega)).mono ?_;rintro e w1 ⟨rfl,J⟩;have Q0:=Lh_ (show w.heap.size≤w1.heap.size from J.size);have D0:=Lh_ J;have C:=Lh_ (EdO.below HO.out J);clear J;obtain ⟨bf,h_⟩:∃ z,fullT v=z:=⟨_,rfl⟩;rw [h_];have M:=Lh_ h_;clear h_;cases bf
  case false =>
   have S:=Lh_ (run_4n (d:=d) (v:=v) L.out (by rintro ⟨q,q2⟩;rw [M.out] at q;cases q));have E:=C.out.2.1.1 3 _ rfl;go_wp2;go_end0
   exact ⟨rfl,by rw [S.out];exact C.out.kq⟩
  by_cases h16:d.run.length<16
  ·
   have J0:(d.run.length:Int)<16:=by omega
   have O:=Lh_ (show d.run.length≤16 by omega);have U:=Lh_ h16;clear h16;have E:=C.out.2.1.1 3 _ rfl;go_upto_region 3 with fail
   have S:=Lh_ (run_4y L.out ⟨M.out,U.out⟩);have I:=C.out.2.2.2.2.2.2.2.1;have O0:=I.1;have C0:=I.2.1;unfold maxLen at C0;clear I;obtain ⟨w8,hw8⟩:∃ z,w1.alloc (.cells #[.string v] 9)=z:=⟨_,rfl⟩;have F:Below w1.heap.size w1 w8:=by rw [← hw8];exact (Below.refl _ _).alloc (Nat.le_refl _) _
   have W:=Lh_ (show BoxL w8 w1.heap.size [.string v] from box_mk hw8);have G0:=Lh_ (show w1.heap.size≤w8.heap.size from F.size);have F0:=tb_ D0 F;have A:=Lh_ (EdO.below C.out F);clear F;have V:=Lh_ (Nat.le_of_lt (Nat.lt_of_le_of_lt A.out.2.2.1.bx A.out.2.2.1.xl));go_wp2_with (at_builtin;refine wpList_app rfl _ _ rfl (.slice h.a3 d.run.length h.c3) (.slice (some ⟨w1.heap.size,0,none⟩) 1 1) rfl rfl (run_app1 E_txt _ (.slice h.a3 d.run.length h.c3) d.run A.out.2.2.1.o3 w1.heap.size v [.string v] W.out.1 ⟨rfl,(by have:=HV.out;unfold maxLen;omega)⟩ (by have A0:=O.out;unfold maxLen;omega) (by have A0:=O.out;omega) V.out) ?_;rintro v9 w9 ⟨B,H,Q⟩;obtain ⟨nl,hnl⟩:∃ z,d.run ++ [v]=z:=⟨_,rfl⟩;rw [hnl] at B;have Y:=Lh_ hnl;clear hnl;obtain ⟨A9,c9,B0,-⟩:=B.sl;subst B0;have D:=A.out.2.1.kept H (fun e=>A.out.2.2.1.x3 e.symm);have N:=Lh_ (EdO.row3 A.out B H Q);clear B H Q E;have E:=D.1 3 _ rfl;have Z:=D.2.1;clear D);go_end0
   exact ⟨rfl,by rw [S.out,Y.out];exact N.out⟩
  have J0:¬ (d.run.length:Int)<16:=by omega
  have U:=Lh_ h16;clear h16;have S:=Lh_ (run_4n (d:=d) (v:=v) L.out (by rintro ⟨q,q2⟩;exact U.out q2));have E:=C.out.2.1.1 3 _ rfl;go_wp2;go_end0
  exact ⟨rfl,by rw [S.out];exact C.out.kq⟩
 have P0:(op == 4)=false:=by simpa using o4
 have L:=Lh_ o4;clear o4;have E:=HO.out.2.1.1 3 _ rfl;have Z:=HO.out.2.1.2.1;go_upto_region 2 with fail
 clear E Z;have T:=EdO.row3 (l:=[]) (v:=.slice none 0 0) HO.out (OwnsS.nil_ _ _ _ _) (grown_wide (grown_none (Below.refl _ _))) (fun q hq=>by cases hq);obtain ⟨w1,hw1⟩:∃ z,w.setCell ⟨X,3,none⟩ (.slice none 0 0)=z:=⟨_,rfl⟩;rw [hw1] at T ⊢;obtain ⟨d1,hd1⟩:∃ z,({ d with run:=[] }:Draft)=z:=⟨_,rfl⟩;rw [hd1] at T;obtain ⟨h1,H0⟩:=T.open;have R:=Lh_ hd1;have N0:=Lh_ H0;clear hd1 H0 T hw1;go_wp2_with fail;refine (full_any v _ (by have:=HV.out;unfold maxLen;omega)).mono ?_;rintro e w2 ⟨rfl,K⟩;have R0:=Lh_ (show w1.heap.size≤w2.heap.size from K.size);have E0:=Lh_ K;have G:=Lh_ (EdO.below N0.out K);clear K;obtain ⟨bf,h_⟩:∃ z,fullT v=z:=⟨_,rfl⟩;rw [h_];have M:=Lh_ h_;clear h_;cases bf
 case false =>
  have S:=Lh_ (run_0n L.out R.out M.out);have E:=G.out.2.1.1 3 _ rfl;go_wp2;go_end0
  exact ⟨rfl,by rw [S.out];exact G.out.kq⟩
 have O:=Lh_ (show d1.run.length≤16 by rw [← R.out];simp);have J0:(d1.run.length:Int)<16:=by rw [← R.out];simp
 have E:=G.out.2.1.1 3 _ rfl;go_upto_region 3 with fail
 have S:=Lh_ (run_0y L.out R.out M.out);have I:=G.out.2.2.2.2.2.2.2.1;have O0:=I.1;have C0:=I.2.1;unfold maxLen at C0;clear I;obtain ⟨w8,hw8⟩:∃ z,w2.alloc (.cells #[.string v] 9)=z:=⟨_,rfl⟩;have F:Below w2.heap.size w2 w8:=by rw [← hw8];exact (Below.refl _ _).alloc (Nat.le_refl _) _
 have W:=Lh_ (show BoxL w8 w2.heap.size [.string v] from box_mk hw8);have G0:=Lh_ (show w2.heap.size≤w8.heap.size from F.size);have F0:=tb_ E0 F;have A:=Lh_ (EdO.below G.out F);clear F;have V:=Lh_ (Nat.le_of_lt (Nat.lt_of_le_of_lt A.out.2.2.1.bx A.out.2.2.1.xl));go_wp2_with (at_builtin;refine wpList_app rfl _ _ rfl (.slice h1.a3 d1.run.length h1.c3) (.slice (some ⟨w2.heap.size,0,none⟩) 1 1) rfl rfl (run_app1 E_txt _ (.slice h1.a3 d1.run.length h1.c3) d1.run A.out.2.2.1.o3 w2.heap.size v [.string v] W.out.1 ⟨rfl,(by have:=HV.out;unfold maxLen;omega)⟩ (by have A0:=O.out;unfold maxLen;omega) (by have A0:=O.out;omega) V.out) ?_;rintro v9 w9 ⟨B,H,Q⟩;obtain ⟨nl,hnl⟩:∃ z,d1.run ++ [v]=z:=⟨_,rfl⟩;rw [hnl] at B;have Y:=Lh_ hnl;clear hnl;obtain ⟨A9,c9,B0,-⟩:=B.sl;subst B0;have D:=A.out.2.1.kept H (fun e=>A.out.2.2.1.x3 e.symm);have N:=Lh_ (EdO.row3 A.out B H Q);clear B H Q E;have E:=D.1 3 _ rfl;have Z:=D.2.1;clear D);go_end0
 exact ⟨rfl,by rw [S.out,Y.out];exact N.out⟩
set_option maxRecDepth 100000 in
set_option maxHeartbeats 4000000 in
theorem prio_any (P:Nat→Prop) (base X:Nat) (d:Draft) (v:ByteArray) (w:World) (he:EdQ 53 9 35 P w base X d) (hv:v.size≤1000) (h7:Ok7 w) :
  Calls Tryz.prog 83 #[.pointer (some ⟨X,0,none⟩),.string v] w (EPost 53 9 35 P base X (prioD d v) w):=by
 obtain ⟨h,M⟩:=he.open;have U:=Lh_ M;have Z:=Lh_ hv;have S:=Lh_ h7;clear he M hv h7;go_enter Tryz.func83,Tryz.ntmps83;have O:=Lh_ U.out.kq.2.ok;go_wp2_with fail;refine (Atoi_any v _ S.out Z.out).mono ?_;rintro e w1 ⟨L,n,ev,rfl,G,R⟩;have Q:=Lh_ (S.out.below L);have V:=Lh_ (show w.heap.size≤w1.heap.size from L.size);have I:=Lh_ L;have F:=Lh_ (EdO.below U.out L);clear L;have K:=Lh_ G;clear G;rcases R with ⟨hp,rfl⟩ | ⟨hp,te,pe,rfl⟩
 ·
  have N:=Lh_ hp;clear hp;go_wp2_with fail;refine (Itoa_any n _ Q.out K.out).mono ?_;rintro e w2 ⟨rfl,C⟩;have W:=Lh_ (show w1.heap.size≤w2.heap.size from C.size);have T:=tb_ I C;have A:=Lh_ (EdO.below F.out C);clear C;have E:((⟨(Lib.itoa n).toArray⟩:ByteArray).toList == v.toList)=decide (Lib.itoa n=v.data.toList):=by rw [Lib.toList_data,Lib.toList_data];show ((Lib.itoa n) == v.data.toList)=_;rw [Bool.eq_iff_iff];simp
  by_cases hi:Lib.itoa n=v.data.toList
  ·
   have H:((⟨(Lib.itoa n).toArray⟩:ByteArray).toList == v.toList)=true:=by rw [E];exact decide_eq_true hi
   have Y:=Lh_ hi;clear E hi;obtain ⟨st,hst⟩:∃ z,(⟨(Lib.itoa n).toArray⟩:ByteArray)=z:=⟨_,rfl⟩;rw [hst] at H ⊢;clear hst;by_cases hr1 : -1000≤n
   ·
    by_cases hr2:n≤1000
    ·
     have D:=Lh_ (prio_y (d:=d) N.out Y.out ⟨hr1,hr2⟩);have B:=O.out;have J:=Lh_ (EdK.f_prio (x:=n) A.out.kq ⟨B.1,okI_small (by show -100000≤n;omega) (by show n≤100000;omega),B.2.2.1,B.2.2.2.1,B.2.2.2.2.1,B.2.2.2.2.2.1,B.2.2.2.2.2.2.1,B.2.2.2.2.2.2.2⟩);clear B;have B0:=A.out.2.1.1 6 _ rfl;have A0:=A.out.2.1.2.1;go_wp2;go_end0
     exact ⟨rfl,by rw [D.out];exact J.out⟩
    have D:=Lh_ (prio_n (d:=d) (.inr ⟨n,N.out,.inr (fun q=>hr2 q.2)⟩));go_wp2;go_end0
    exact ⟨rfl,by rw [D.out];exact A.out.kq⟩
   have D:=Lh_ (prio_n (d:=d) (.inr ⟨n,N.out,.inr (fun q=>hr1 q.1)⟩));go_wp2;go_end0
   exact ⟨rfl,by rw [D.out];exact A.out.kq⟩
  have H:((⟨(Lib.itoa n).toArray⟩:ByteArray).toList == v.toList)=false:=by rw [E];exact decide_eq_false hi
  have D:=Lh_ (prio_n (d:=d) (.inr ⟨n,N.out,.inl hi⟩));clear E hi;obtain ⟨st,hst⟩:∃ z,(⟨(Lib.itoa n).toArray⟩:ByteArray)=z:=⟨_,rfl⟩;rw [hst] at H ⊢;clear hst;go_wp2;go_end0
  exact ⟨rfl,by rw [D.out];exact A.out.kq⟩
 have D:=Lh_ (prio_n (d:=d) (.inl hp));clear hp;go_wp2;go_end0
 exact ⟨rfl,by rw [D.out];exact F.out.kq⟩
def lnkD (d:Draft) (op:Int) (v:ByteArray):Draft:={ d with links:=linkGo op (if op=3∨op=6 then [] else d.links) (wordsT v) }
theorem link_y {d d1:Draft} {op:Int} {v:ByteArray} (h:op=3∨op=6) (h1 : { d with links:=[] }=d1):lnkD d op v = { d1 with links:=linkGo op d1.links (wordsT v) }:=by
 subst h1;unfold lnkD;rw [if_pos h]
theorem link_n {d:Draft} {op:Int} {v:ByteArray} (h:¬ (op=3∨op=6)):lnkD d op v = { d with links:=linkGo op d.links (wordsT v) }:=by
 unfold lnkD;rw [if_neg h]
def WkSt (op:Int) (ws:List ByteArray) (DD d:Draft) (k:Nat):Prop:={ d with links:=linkGo op d.links (ws.drop k) }=DD∧ascL d.links=true∧d.links.length≤16
theorem WkSt.none_ {op:Int} {ws:List ByteArray} {DD d:Draft} {k:Nat} {x:ByteArray} (h:WkSt op ws DD d k) (hx:ws[k]? = some x) (hc:cleanOf x=none):WkSt op ws DD d (k+1):=by
 refine ⟨?_,h.2⟩;rw [← h.1,link_step hx,hc]
theorem WkSt.drop_ {op:Int} {ws:List ByteArray} {DD d:Draft} {k:Nat} {x s:ByteArray} (h:WkSt op ws DD d k) (hx:ws[k]? = some x) (hc:cleanOf x=some s) (h5:op=5):WkSt op ws DD { d with links:=withoutT d.links s } (k+1):=by
 refine ⟨?_,without_asc h.2.1 s,Nat.le_trans (without_len _ s) h.2.2⟩;rw [← h.1,link_step hx,hc];simp only [if_pos h5]
theorem WkSt.put_ {op:Int} {ws:List ByteArray} {DD d:Draft} {k:Nat} {x s:ByteArray} (h:WkSt op ws DD d k) (hx:ws[k]? = some x) (hc:cleanOf x=some s) (h5:¬ op=5):WkSt op ws DD { d with links:=putT d.links s 16 } (k+1):=by
 refine ⟨?_,putT_asc h.2.1 s 16,putT_len _ s 16 h.2.2⟩;rw [← h.1,link_step hx,hc];simp only [if_neg h5]
theorem WkSt.end_ {op:Int} {ws:List ByteArray} {DD d:Draft} {k:Nat} (h:WkSt op ws DD d k) (hk:k=ws.length):d=DD:=by
 rw [← h.1,hk,List.drop_length];rfl
theorem EdK.back {TA TS TT:TypeId} {P Q:Nat→Prop} {a b c:World} {base X:Nat} {d0 d:Draft} (h:EdK TA TS TT P a base X d0 b) (k:EdK TA TS TT Q b base X d c) (hQ:∀ x,P x→Q x):EdK TA TS TT P a base X d c:=⟨h.1.trans (k.1.mono hQ),k.2.less hQ⟩
def Env (P:Nat→Prop) (w:World):Prop:=∃ wa,Ok wa∧Ok7 wa∧Below wa.heap.size wa w∧∀ k,k<wa.heap.size→P k
theorem Env.kp {P:Nat→Prop} {w w':World} (h:Env P w) (k:Kp P w w'):Env P w':=by
 obtain ⟨E,B,C,D,A⟩:=h;exact ⟨E,B,C,D.trans (k.below A),A⟩
theorem Env.ok {P:Nat→Prop} {w:World} (h:Env P w):Ok w:=by
 obtain ⟨E,A,C,B,D⟩:=h;exact A.next B
theorem Env.o7 {P:Nat→Prop} {w:World} (h:Env P w):Ok7 w:=by
 obtain ⟨E,C,A,B,D⟩:=h;exact A.below B
theorem Env.mono {P Q:Nat→Prop} {w:World} (h:Env P w) (hQ:∀ k,P k→Q k):Env Q w:=by
 obtain ⟨E,A,B,C,D⟩:=h;exact ⟨E,A,B,C,fun k hk=>hQ k (D k hk)⟩
theorem link1_any' (r:Int) (w:World):Calls Tryz.prog 124 #[.int .i32 r] w fun e w'=>e=.returned (.bool (decide (r=32)))∧w'=w:=by
 by_cases h:r=32
 ·
  have B:(r == 32)=true:=by rw [h];rfl
  have A:=Lh_ (show decide (r=32)=true from decide_eq_true h);clear h;go_enter Tryz.func124,Tryz.ntmps124;go_wp2;go_ret;exact ⟨by rw [A.out];rfl,rfl⟩
 have B:(r == 32)=false:=by simpa using h
 have A:=Lh_ (show decide (r=32)=false from decide_eq_false h);clear h;go_enter Tryz.func124,Tryz.ntmps124;go_wp2;go_ret;exact ⟨by rw [A.out];rfl,rfl⟩
theorem link1_runes (w:World):PredAtRunes Tryz.prog 124 #[] (fun r=>decide (r=32)) w:=fun W x _ _=>(link1_any' (x:Int) W).mono (by
 rintro e w' ⟨rfl,rfl⟩;exact ⟨by rw [show decide ((x:Int)=32)=decide (x=32) from by rw [Bool.eq_iff_iff];simp;omega],0,rfl⟩)
set_option maxRecDepth 100000 in
set_option maxHeartbeats 4000000 in
theorem link_any (P:Nat→Prop) (base X:Nat) (d:Draft) (op:Int) (v:ByteArray) (w:World) (he:EdQ 53 9 35 P w base X d) (hen:Env P w) (ha:ascL d.links=true) (hl:d.links.length≤16) (hv:v.size≤1000) :
  Calls Tryz.prog 77 #[.pointer (some ⟨X,0,none⟩),.int .i64 op,.string v] w (EPost 53 9 35 P base X (lnkD d op v) w):=by
 obtain ⟨h,J1⟩:=he.open;have HO:=Lh_ J1;have HV:=Lh_ hv;have HA:=Lh_ ha;have HL:=Lh_ hl;have C1:=Lh_ hen;clear he J1 hv ha hl hen;go_enter Tryz.func77,Tryz.ntmps77;by_cases o36:op=3∨op=6
 ·
  have G0:=Lh_ o36;by_cases o3:op=3
  ·
   have M1:(op == 3)=true:=by rw [o3];rfl
   clear o3 o36;have I:=HO.out.2.1.1 2 _ rfl;have W:=HO.out.2.1.2.1;go_upto_region 2 with fail
   clear I W;have Y:=EdO.row2 (l:=[]) (v:=.slice none 0 0) HO.out (OwnsS.nil_ _ _ _ _) (grown_wide (grown_none (Below.refl _ _))) (fun q hq=>by cases hq);obtain ⟨w1,hw1⟩:∃ z,w.setCell ⟨X,2,none⟩ (.slice none 0 0)=z:=⟨_,rfl⟩;rw [hw1] at Y ⊢;obtain ⟨d1,hd1⟩:∃ z,({ d with links:=[] }:Draft)=z:=⟨_,rfl⟩;rw [hd1] at Y;obtain ⟨h1,U0⟩:=Y.open;have E0:=Lh_ hd1;have F0:=Lh_ U0;clear hd1 U0 Y hw1;go_wp2_with fail;refine (Tryz.strings_FieldsFunc_runes 124 #[] (enters_of Tryz.func124 (by kernel_rfl) rfl) (fun r=>decide (r=32)) v _ (by have:=HV.out;omega) (link1_runes _)).mono ?_;rintro e wf ⟨A,rfl,hA,N,V⟩;rw [fields_words] at N ⊢;have Q:=words_len v;have T:=fun x (hx:x ∈ wordsT v)=>words_small (s:=v) hx
   have H:=(show WkSt op (wordsT v) (lnkD d op v) d1 0 from ⟨by rw [link_y G0.out E0.out];rfl,by rw [← E0.out];rfl,by rw [← E0.out];simp⟩);obtain ⟨ws,hws_⟩:∃ z,wordsT v=z:=⟨_,rfl⟩;rw [hws_] at N Q T H ⊢;obtain ⟨DD,hDD⟩:∃ z,lnkD d op v=z:=⟨_,rfl⟩;rw [hDD] at H;have K0:=Lh_ hDD;have Q0:=Lh_ Q;have R0:=Lh_ T;have O0:=Lh_ H;clear hws_ Q T H hDD;have J0:=Lh_ (show ∀ (j:Nat) x,ws[j]? = some x→wf.cell? ⟨A,j,none⟩=some (.string x) from fun j x hx=>by have h1:=N.cells (g:=A) rfl j (.string x) (by rw [List.getElem?_map,hx];rfl);rw [add_mk,Nat.zero_add] at h1;exact h1);have C0:=(N.lt A rfl).2;have HQ:=Lh_ (show EdQ 53 9 35 (fun q=>P q∨q=A) wf base X d1 from F0.out.kq.2.more V (fun q hq=>hq.elim .inl (fun e=>.inr (by subst e;exact ⟨hA,C0⟩))));have B0:=Lh_ (EdK.below F0.out.kq V);clear N hA C0;have A1:=Lh_ (show w1.heap.size≤wf.heap.size from V.size);have Y0:=Lh_ V;have Z0:=Lh_ (EdO.below F0.out V);clear V;go_wp2_with fail;go_loopw [23] (fun i wr=>∃ (k:Nat) (U:Draft),k≤ws.length∧i=.int .i64 (k:Int)∧Hid (EdK 53 9 35 (fun q=>P q∨q=A) wf base X U wr)∧Hid (WkSt op ws DD U k)) (fun i _=>ws.length - (intOf i).toNat)
   case atStart=>exact ⟨0,d1,Nat.zero_le _,rfl,Lh_ HQ.out.start,O0⟩
   obtain ⟨k,U,hk,rfl,HK,F⟩:=hrel;have Q:=Q0.out;have K1:=HV.out;have Z:=Lh_ (EdK.back B0.out HK.out (fun x hx=>.inl hx));obtain ⟨h2,D0⟩:=HK.out.open;have N0:=Lh_ D0;clear D0;by_cases hlt:k<ws.length
   ·
    have i1:(k:Int)<(ws.length:Int):=by omega
    have J:=Lh_ hlt;have O:ws[k]? = some (ws[k]'hlt):=List.getElem?_eq_getElem hlt;obtain ⟨x,hx⟩:∃ y,ws[k]'hlt=y:=⟨_,rfl⟩;rw [hx] at O;have T0:=Lh_ (R0.out x (List.mem_of_getElem? O));have HX:=Lh_ O;have c5:wr.cell? ⟨A,k,none⟩=some (.string x):=(Kp.cell HK.out.1 (.inr rfl)).trans (J0.out k x O);clear hx O;go_wp2_with fail;skip
    refine (Clean_any x wr (by have:=T0.out;omega) ((C1.out.kp Z.out.1).ok)).mono ?_;rintro e w42 ⟨E,rfl⟩;have P0:=Lh_ (show wr.heap.size≤w42.heap.size from E.size);have H0:=Lh_ E;have B:=Lh_ (EdO.below N0.out E);clear E;clear c5;cases hcl:cleanOf x with
    | none =>
     have L:=Lh_ (F.out.none_ HX.out hcl);clear hcl;have M0:=Lh_ B.out.kq;go_wp2;go_roundw
     case rel=>exact ⟨k+1,U,J.out,by go_num,M0,L⟩
     have:=J.out;simp [intOf];omega
    | some s =>
     have I0:=Lh_ (clean_size hcl);have A0:=Lh_ hcl;clear hcl;by_cases o5:op=5
     ·
      have V0:(op == 5)=true:=by rw [o5];rfl
      have R:=Lh_ o5;clear o5;have I:=B.out.2.1.1 2 _ rfl;go_wp2_with fail;refine (dropE_any base _ U.links s _ B.out.2.2.1.o2 (by have:=F.out.2.2;omega) (Nat.le_of_lt (Nat.lt_of_le_of_lt B.out.2.2.1.bx B.out.2.2.1.xl))).mono ?_;rintro e w9 ⟨v9,rfl,D,G,M⟩;obtain ⟨A9,c9,S,-⟩:=D.sl;subst S;have C:=B.out.2.1.kept G (fun e=>B.out.2.2.1.x2 e.symm);have K:=Lh_ (EdO.row2 B.out D G M);clear I;have L:=Lh_ (F.out.drop_ HX.out A0.out R.out);have I:=C.1 2 _ rfl;have W:=C.2.1;clear D C G M;go_wp2;go_roundw
      case rel=>exact ⟨k+1,_,J.out,by go_num,K,L⟩
      have:=J.out;simp [intOf];omega
     have V0:(op == 5)=false:=by simpa using o5
     have R:=Lh_ o5;clear o5;have I:=B.out.2.1.1 2 _ rfl;go_wp2_with fail;refine (put_any base _ U.links s _ B.out.2.2.1.o2 F.out.2.1 (by have:=F.out.2.2;omega) (by have:=I0.out;unfold maxLen;omega) (Nat.le_of_lt (Nat.lt_of_le_of_lt B.out.2.2.1.bx B.out.2.2.1.xl))).mono ?_;rintro e w9 ⟨v9,rfl,D,G,M⟩;obtain ⟨A9,c9,S,-⟩:=D.sl;subst S;have C:=B.out.2.1.kept G (fun e=>B.out.2.2.1.x2 e.symm);have K:=Lh_ (EdO.row2 B.out D G M);clear I;have L:=Lh_ (F.out.put_ HX.out A0.out R.out);have I:=C.1 2 _ rfl;have W:=C.2.1;clear D C G M;go_wp2;go_roundw
     case rel=>exact ⟨k+1,_,J.out,by go_num,K,L⟩
     have:=J.out;simp [intOf];omega
   have i1:¬ (k:Int)<(ws.length:Int):=by omega
   have HE:=Lh_ (F.out.end_ (by omega));go_wp2;go_end0
   exact ⟨rfl,by rw [K0.out,← HE.out];exact Z.out⟩
  have M1:(op == 3)=false:=by simpa using o3
  have O1:(op == 6)=true:=by rcases o36 with q | q;exact absurd q o3;rw [q];rfl
  clear o3 o36;have I:=HO.out.2.1.1 2 _ rfl;have W:=HO.out.2.1.2.1;go_upto_region 2 with fail
  clear I W;have Y:=EdO.row2 (l:=[]) (v:=.slice none 0 0) HO.out (OwnsS.nil_ _ _ _ _) (grown_wide (grown_none (Below.refl _ _))) (fun q hq=>by cases hq);obtain ⟨w1,hw1⟩:∃ z,w.setCell ⟨X,2,none⟩ (.slice none 0 0)=z:=⟨_,rfl⟩;rw [hw1] at Y ⊢;obtain ⟨d1,hd1⟩:∃ z,({ d with links:=[] }:Draft)=z:=⟨_,rfl⟩;rw [hd1] at Y;obtain ⟨h1,U0⟩:=Y.open;have E0:=Lh_ hd1;have F0:=Lh_ U0;clear hd1 U0 Y hw1;go_wp2_with fail;refine (Tryz.strings_FieldsFunc_runes 124 #[] (enters_of Tryz.func124 (by kernel_rfl) rfl) (fun r=>decide (r=32)) v _ (by have:=HV.out;omega) (link1_runes _)).mono ?_;rintro e wf ⟨A,rfl,hA,N,V⟩;rw [fields_words] at N ⊢;have Q:=words_len v;have T:=fun x (hx:x ∈ wordsT v)=>words_small (s:=v) hx
  have H:=(show WkSt op (wordsT v) (lnkD d op v) d1 0 from ⟨by rw [link_y G0.out E0.out];rfl,by rw [← E0.out];rfl,by rw [← E0.out];simp⟩);obtain ⟨ws,hws_⟩:∃ z,wordsT v=z:=⟨_,rfl⟩;rw [hws_] at N Q T H ⊢;obtain ⟨DD,hDD⟩:∃ z,lnkD d op v=z:=⟨_,rfl⟩;rw [hDD] at H;have K0:=Lh_ hDD;have Q0:=Lh_ Q;have R0:=Lh_ T;have O0:=Lh_ H;clear hws_ Q T H hDD;have J0:=Lh_ (show ∀ (j:Nat) x,ws[j]? = some x→wf.cell? ⟨A,j,none⟩=some (.string x) from fun j x hx=>by have h1:=N.cells (g:=A) rfl j (.string x) (by rw [List.getElem?_map,hx];rfl);rw [add_mk,Nat.zero_add] at h1;exact h1);have C0:=(N.lt A rfl).2;have HQ:=Lh_ (show EdQ 53 9 35 (fun q=>P q∨q=A) wf base X d1 from F0.out.kq.2.more V (fun q hq=>hq.elim .inl (fun e=>.inr (by subst e;exact ⟨hA,C0⟩))));have B0:=Lh_ (EdK.below F0.out.kq V);clear N hA C0;have A1:=Lh_ (show w1.heap.size≤wf.heap.size from V.size);have Y0:=Lh_ V;have Z0:=Lh_ (EdO.below F0.out V);clear V;go_wp2_with fail;go_loopw [23] (fun i wr=>∃ (k:Nat) (U:Draft),k≤ws.length∧i=.int .i64 (k:Int)∧Hid (EdK 53 9 35 (fun q=>P q∨q=A) wf base X U wr)∧Hid (WkSt op ws DD U k)) (fun i _=>ws.length - (intOf i).toNat)
  case atStart=>exact ⟨0,d1,Nat.zero_le _,rfl,Lh_ HQ.out.start,O0⟩
  obtain ⟨k,U,hk,rfl,HK,F⟩:=hrel;have Q:=Q0.out;have K1:=HV.out;have Z:=Lh_ (EdK.back B0.out HK.out (fun x hx=>.inl hx));obtain ⟨h2,D0⟩:=HK.out.open;have N0:=Lh_ D0;clear D0;by_cases hlt:k<ws.length
  ·
   have i1:(k:Int)<(ws.length:Int):=by omega
   have J:=Lh_ hlt;have O:ws[k]? = some (ws[k]'hlt):=List.getElem?_eq_getElem hlt;obtain ⟨x,hx⟩:∃ y,ws[k]'hlt=y:=⟨_,rfl⟩;rw [hx] at O;have T0:=Lh_ (R0.out x (List.mem_of_getElem? O));have HX:=Lh_ O;have c5:wr.cell? ⟨A,k,none⟩=some (.string x):=(Kp.cell HK.out.1 (.inr rfl)).trans (J0.out k x O);clear hx O;go_wp2_with fail;skip
   refine (Clean_any x wr (by have:=T0.out;omega) ((C1.out.kp Z.out.1).ok)).mono ?_;rintro e w42 ⟨E,rfl⟩;have P0:=Lh_ (show wr.heap.size≤w42.heap.size from E.size);have H0:=Lh_ E;have B:=Lh_ (EdO.below N0.out E);clear E;clear c5;cases hcl:cleanOf x with
   | none =>
    have L:=Lh_ (F.out.none_ HX.out hcl);clear hcl;have M0:=Lh_ B.out.kq;go_wp2;go_roundw
    case rel=>exact ⟨k+1,U,J.out,by go_num,M0,L⟩
    have:=J.out;simp [intOf];omega
   | some s =>
    have I0:=Lh_ (clean_size hcl);have A0:=Lh_ hcl;clear hcl;by_cases o5:op=5
    ·
     have V0:(op == 5)=true:=by rw [o5];rfl
     have R:=Lh_ o5;clear o5;have I:=B.out.2.1.1 2 _ rfl;go_wp2_with fail;refine (dropE_any base _ U.links s _ B.out.2.2.1.o2 (by have:=F.out.2.2;omega) (Nat.le_of_lt (Nat.lt_of_le_of_lt B.out.2.2.1.bx B.out.2.2.1.xl))).mono ?_;rintro e w9 ⟨v9,rfl,D,G,M⟩;obtain ⟨A9,c9,S,-⟩:=D.sl;subst S;have C:=B.out.2.1.kept G (fun e=>B.out.2.2.1.x2 e.symm);have K:=Lh_ (EdO.row2 B.out D G M);clear I;have L:=Lh_ (F.out.drop_ HX.out A0.out R.out);have I:=C.1 2 _ rfl;have W:=C.2.1;clear D C G M;go_wp2;go_roundw
     case rel=>exact ⟨k+1,_,J.out,by go_num,K,L⟩
     have:=J.out;simp [intOf];omega
    have V0:(op == 5)=false:=by simpa using o5
    have R:=Lh_ o5;clear o5;have I:=B.out.2.1.1 2 _ rfl;go_wp2_with fail;refine (put_any base _ U.links s _ B.out.2.2.1.o2 F.out.2.1 (by have:=F.out.2.2;omega) (by have:=I0.out;unfold maxLen;omega) (Nat.le_of_lt (Nat.lt_of_le_of_lt B.out.2.2.1.bx B.out.2.2.1.xl))).mono ?_;rintro e w9 ⟨v9,rfl,D,G,M⟩;obtain ⟨A9,c9,S,-⟩:=D.sl;subst S;have C:=B.out.2.1.kept G (fun e=>B.out.2.2.1.x2 e.symm);have K:=Lh_ (EdO.row2 B.out D G M);clear I;have L:=Lh_ (F.out.put_ HX.out A0.out R.out);have I:=C.1 2 _ rfl;have W:=C.2.1;clear D C G M;go_wp2;go_roundw
    case rel=>exact ⟨k+1,_,J.out,by go_num,K,L⟩
    have:=J.out;simp [intOf];omega
  have i1:¬ (k:Int)<(ws.length:Int):=by omega
  have HE:=Lh_ (F.out.end_ (by omega));go_wp2;go_end0
  exact ⟨rfl,by rw [K0.out,← HE.out];exact Z.out⟩
 have M1:(op == 3)=false:=by simpa using fun q=>o36 (.inl q)
 have O1:(op == 6)=false:=by simpa using fun q=>o36 (.inr q)
 have G0:=Lh_ o36;clear o36;go_upto_region 2 with fail
 go_wp2_with fail;refine (Tryz.strings_FieldsFunc_runes 124 #[] (enters_of Tryz.func124 (by kernel_rfl) rfl) (fun r=>decide (r=32)) v _ (by have:=HV.out;omega) (link1_runes _)).mono ?_;rintro e wf ⟨A,rfl,hA,N,V⟩;rw [fields_words] at N ⊢;have Q:=words_len v;have T:=fun x (hx:x ∈ wordsT v)=>words_small (s:=v) hx
 have H:=(show WkSt op (wordsT v) (lnkD d op v) d 0 from ⟨by rw [link_n G0.out];rfl,HA.out,HL.out⟩);obtain ⟨ws,hws_⟩:∃ z,wordsT v=z:=⟨_,rfl⟩;rw [hws_] at N Q T H ⊢;obtain ⟨DD,hDD⟩:∃ z,lnkD d op v=z:=⟨_,rfl⟩;rw [hDD] at H;have K0:=Lh_ hDD;have Q0:=Lh_ Q;have R0:=Lh_ T;have O0:=Lh_ H;clear hws_ Q T H hDD;have J0:=Lh_ (show ∀ (j:Nat) x,ws[j]? = some x→wf.cell? ⟨A,j,none⟩=some (.string x) from fun j x hx=>by have h1:=N.cells (g:=A) rfl j (.string x) (by rw [List.getElem?_map,hx];rfl);rw [add_mk,Nat.zero_add] at h1;exact h1);have C0:=(N.lt A rfl).2;have HQ:=Lh_ (show EdQ 53 9 35 (fun q=>P q∨q=A) wf base X d from HO.out.kq.2.more V (fun q hq=>hq.elim .inl (fun e=>.inr (by subst e;exact ⟨hA,C0⟩))));have B0:=Lh_ (EdK.below HO.out.kq V);clear N hA C0;have A1:=Lh_ (show w.heap.size≤wf.heap.size from V.size);have Y0:=Lh_ V;have Z0:=Lh_ (EdO.below HO.out V);clear V;go_wp2_with fail;go_loopw [23] (fun i wr=>∃ (k:Nat) (U:Draft),k≤ws.length∧i=.int .i64 (k:Int)∧Hid (EdK 53 9 35 (fun q=>P q∨q=A) wf base X U wr)∧Hid (WkSt op ws DD U k)) (fun i _=>ws.length - (intOf i).toNat)
 case atStart=>exact ⟨0,d,Nat.zero_le _,rfl,Lh_ HQ.out.start,O0⟩
 obtain ⟨k,U,hk,rfl,HK,F⟩:=hrel;have Q:=Q0.out;have K1:=HV.out;have Z:=Lh_ (EdK.back B0.out HK.out (fun x hx=>.inl hx));obtain ⟨h2,D0⟩:=HK.out.open;have N0:=Lh_ D0;clear D0;by_cases hlt:k<ws.length
 ·
  have i1:(k:Int)<(ws.length:Int):=by omega
  have J:=Lh_ hlt;have O:ws[k]? = some (ws[k]'hlt):=List.getElem?_eq_getElem hlt;obtain ⟨x,hx⟩:∃ y,ws[k]'hlt=y:=⟨_,rfl⟩;rw [hx] at O;have T0:=Lh_ (R0.out x (List.mem_of_getElem? O));have HX:=Lh_ O;have c5:wr.cell? ⟨A,k,none⟩=some (.string x):=(Kp.cell HK.out.1 (.inr rfl)).trans (J0.out k x O);clear hx O;go_wp2_with fail;skip
  refine (Clean_any x wr (by have:=T0.out;omega) ((C1.out.kp Z.out.1).ok)).mono ?_;rintro e w42 ⟨E,rfl⟩;have P0:=Lh_ (show wr.heap.size≤w42.heap.size from E.size);have H0:=Lh_ E;have B:=Lh_ (EdO.below N0.out E);clear E;clear c5;cases hcl:cleanOf x with
  | none =>
   have L:=Lh_ (F.out.none_ HX.out hcl);clear hcl;have M0:=Lh_ B.out.kq;go_wp2;go_roundw
   case rel=>exact ⟨k+1,U,J.out,by go_num,M0,L⟩
   have:=J.out;simp [intOf];omega
  | some s =>
   have I0:=Lh_ (clean_size hcl);have A0:=Lh_ hcl;clear hcl;by_cases o5:op=5
   ·
    have V0:(op == 5)=true:=by rw [o5];rfl
    have R:=Lh_ o5;clear o5;have I:=B.out.2.1.1 2 _ rfl;go_wp2_with fail;refine (dropE_any base _ U.links s _ B.out.2.2.1.o2 (by have:=F.out.2.2;omega) (Nat.le_of_lt (Nat.lt_of_le_of_lt B.out.2.2.1.bx B.out.2.2.1.xl))).mono ?_;rintro e w9 ⟨v9,rfl,D,G,M⟩;obtain ⟨A9,c9,S,-⟩:=D.sl;subst S;have C:=B.out.2.1.kept G (fun e=>B.out.2.2.1.x2 e.symm);have K:=Lh_ (EdO.row2 B.out D G M);clear I;have L:=Lh_ (F.out.drop_ HX.out A0.out R.out);have I:=C.1 2 _ rfl;have W:=C.2.1;clear D C G M;go_wp2;go_roundw
    case rel=>exact ⟨k+1,_,J.out,by go_num,K,L⟩
    have:=J.out;simp [intOf];omega
   have V0:(op == 5)=false:=by simpa using o5
   have R:=Lh_ o5;clear o5;have I:=B.out.2.1.1 2 _ rfl;go_wp2_with fail;refine (put_any base _ U.links s _ B.out.2.2.1.o2 F.out.2.1 (by have:=F.out.2.2;omega) (by have:=I0.out;unfold maxLen;omega) (Nat.le_of_lt (Nat.lt_of_le_of_lt B.out.2.2.1.bx B.out.2.2.1.xl))).mono ?_;rintro e w9 ⟨v9,rfl,D,G,M⟩;obtain ⟨A9,c9,S,-⟩:=D.sl;subst S;have C:=B.out.2.1.kept G (fun e=>B.out.2.2.1.x2 e.symm);have K:=Lh_ (EdO.row2 B.out D G M);clear I;have L:=Lh_ (F.out.put_ HX.out A0.out R.out);have I:=C.1 2 _ rfl;have W:=C.2.1;clear D C G M;go_wp2;go_roundw
   case rel=>exact ⟨k+1,_,J.out,by go_num,K,L⟩
   have:=J.out;simp [intOf];omega
 have i1:¬ (k:Int)<(ws.length:Int):=by omega
 have HE:=Lh_ (F.out.end_ (by omega));go_wp2;go_end0
 exact ⟨rfl,by rw [K0.out,← HE.out];exact Z.out⟩
end Go.Cold
