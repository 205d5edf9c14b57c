/-
  Walks' tools,for chapter 11: an append to a slice of attributes that has no room,whosever it is;what binary search knows. No program is named here.
-/
import Derived.Test.YtjpoljlgkgmdkaaGreatDoorMI
import Derived.Lib.AppendZeros
import Derived.Lib.SlicesS
set_option linter.unusedSimpArgs false
set_option linter.unusedVariables false
namespace Go.Cold
open Go Go.RowKit Go.Proofs.YtjpoljlgkgmdkaaGreatDoor
open Go.Proofs hiding intOf
def rowA (l:List Attr):List Value:=(l.map attrCells).flatten
theorem rowA_len:∀ l:List Attr,(rowA l).length=l.length * 2
 | []=>rfl
 | a :: r=>by
  have:=rowA_len r;unfold rowA at this ⊢;rw [List.map_cons,List.flatten_cons,List.length_append,this,List.length_cons];show 2+_=_;omega
theorem rowA_cells {w:World} {S:Nat→Prop} {A:Option Addr} {c:Nat} {l:List Attr} (h:SlS w S A c l) (h0:0<l.length):∃ b o,A=some ⟨b,o,none⟩∧S b∧∀ j u,(rowA l)[j]? = some u→w.cell? ⟨b,o+j,none⟩=some u:=by
 obtain ⟨b,o,e,F,B,C,E,D⟩:=h.rows h0;refine ⟨b,o,e,F,?_⟩;have:B=l.map attrCells:=by
  apply List.ext_getElem
  · rw [C,List.length_map]
  intro i h1 h2;have G:i<l.length:=by rw [← C];exact h1
  have:=E i l[i] B[i] (List.getElem?_eq_getElem G) (List.getElem?_eq_getElem h1);rw [List.getElem_map];exact this.1
 rw [this] at D;exact D
theorem own_attrs {F:Nat→Prop} {w:World} {base:Nat} {T:TypeId} {v:Value} {l:List Attr} (h:w.ownsRow base T 2 v l.length (rowA l)) (hs:∀ a ∈ l,a.name.size≤maxLen∧a.value.size≤maxLen):OwnsS F w base T v l:=by
 refine ⟨l.map attrCells,h,by rw [List.length_map],fun i x cs hx hcs=>?_⟩;rw [List.getElem?_map,hx] at hcs;cases hcs
 exact ⟨rfl,hs x (List.mem_of_getElem? hx)⟩
theorem attr_okS {w:World} {S:Nat→Prop} {A:Option Addr} {c:Nat} {l:List Attr} (h:SlS w S A c l):∀ a ∈ l,a.name.size≤maxLen∧a.value.size≤maxLen:=fun a ha=>by
 have h0:0<l.length:=List.length_pos_of_mem ha;obtain ⟨b,o,e,hb,h4⟩:=h.2.2 h0;obtain ⟨i,hi,rfl⟩:=List.getElem_of_mem ha;obtain ⟨cs,h5,-⟩:=h4 i _ (List.getElem?_eq_getElem hi);exact h5.2
theorem run_app_full {P:Program} {F S:Nat→Prop} {w:World} {base bytes:Nat} {T TS:TypeId} (E:ElemT P (Rep.size Attr) T TS bytes) (ty:TypeId) (A:Option Addr) (l:List Attr) (h:SlS w S A l.length l) (hA:A=none→l=[]) (g:Nat) (y:Attr)
  (hc:∀ (j:Nat) u,(attrCells y)[j]? = some u→w.cell? ⟨g,j,none⟩=some u) (hy:y.name.size≤maxLen∧y.value.size≤maxLen)
  (h1:l.length+1≤maxLen) (h2:(l.length+1) * bytes≤140737488355328) (hb:base≤w.heap.size) :
  ∃ v' w',(Builtin.append_ #[TS,TS] ty #[.slice A l.length l.length,.slice (some ⟨g,0,none⟩) 1 1]).run P w=.ok v' w'∧OwnsS F w' base T v' (l ++ [y])∧Below w.heap.size w w'∧(∀ k,v'.ownBlock=some k→w.heap.size≤k):=by
 obtain ⟨i,z,V,X,G,R,K⟩:=E.info;have U:Rep.size Attr=2:=rfl;rw [U] at G K;cases A with
 | none =>
  obtain rfl:=hA rfl;obtain ⟨v',w',Q,W,H,I⟩:=run_app1 (F:=F) (base:=base) E ty (.slice none 0 0) [] (OwnsS.nil_ F w base T) g y (attrCells y) hc ⟨rfl,hy⟩ h1 h2 hb;refine ⟨v',w',Q,W,⟨H.os,H.tape,H.output,H.size,fun k hk=>H.block k hk (by simp [Value.ownBlock])⟩,fun k hk=>?_⟩;rcases I k hk with h | h
  · simp [Value.ownBlock] at h
  exact h
 | some a =>
  have B:∃ b,a=b∧∀ j u,(rowA l)[j]? = some u→w.cell? (b.add j)=some u:=by
   refine ⟨a,rfl,fun j u hu=>?_⟩;by_cases h0:0<l.length
   ·
    obtain ⟨b,o,e,-,M⟩:=rowA_cells h h0
    obtain rfl:=Option.some.inj e;rw [add_mk];exact M j u hu
   have:l=[]:=List.length_eq_zero_iff.1 (by omega);rw [this] at hu;simp [rowA] at hu
  obtain ⟨_,rfl,D⟩:=B;have L:=h1;unfold maxLen at L;have Q:=run_append_grow (P:=P) w TS ty T i z E.sl V X a l.length l.length (rowA l) (by rw [rowA_len,G]) D ⟨g,0,none⟩ 1 1 (attrCells y) (by rw [G];rfl) (fun j v hv=>by rw [add_mk,Nat.zero_add];exact hc j v hv) (by omega) (by omega) (growslice_fits (by omega) (by rw [R];exact h2));have O:=grownCap_ge w (l.length+1) l.length T;have N:grownCap w (l.length+1) l.length T≤maxLen:=grownCap_le_maxLen w (l.length+1) l.length T h1;refine ⟨_,_,Q,?_,(show Below w.heap.size w w.drew from below_drewN_self w w.heap.size 1).alloc (Nat.le_refl _) _,fun k hk=>by simp [Value.ownBlock] at hk;omega⟩;have C:(l ++ [y]).length=l.length+1:=by rw [List.length_append];rfl
  have J:rowA l ++ attrCells y=rowA (l ++ [y]):=by unfold rowA;simp
  refine own_attrs ?_ (fun b hb2=>?_)
  ·
   rw [C]
   refine ⟨by rw [rowA_len,C],.inr ⟨w.heap.size,_,_,rfl,hb,heap_alloc_new w.drew _,O,N,?_,?_⟩⟩
   ·
    simp only [Array.size_append,List.size_toArray,size_zeroCells,K,rowA_len]
    have:(attrCells y).length=2:=rfl;omega
   simp only [Array.toList_append,List.append_assoc];rw [← List.append_assoc,J,show (l.length+1) * 2=(rowA (l ++ [y])).length by rw [rowA_len,C]];exact List.take_left
  rcases List.mem_append.1 hb2 with hb2 | hb2
  · exact attr_okS h b hb2
  rw [List.mem_singleton] at hb2;rw [hb2];exact hy
def BsR (l:List Attr) (n:ByteArray) (i j:Nat):Prop:=i≤j∧j≤l.length∧(∀ (k:Nat) (a:Attr),l[k]? = some a→k<i→strLt a.name n=true)∧∀ (k:Nat) (a:Attr),l[k]? = some a→j≤k→strLt a.name n=false
theorem BsR.start (l:List Attr) (n:ByteArray):BsR l n 0 l.length:=⟨Nat.zero_le _,Nat.le_refl _,fun k a _ h=>by omega,fun k a hk h=>by have:=(List.getElem?_eq_some_iff.1 hk).1;omega⟩
theorem BsR.left {l:List Attr} {n:ByteArray} {i j h:Nat} {a:Attr} (hr:BsR l n i j) (hs:sortedA l=true) (h1:i≤h) (h2:h<j) (ha:l[h]? = some a) (hl:strLt a.name n=true):BsR l n (h+1) j:=by
 refine ⟨by omega,hr.2.1,fun k b hk hlt=>?_,hr.2.2.2⟩;have A:=posA_spec hs n;exact (A k b hk).2 (by have:=(A h a ha).1 hl;omega)
theorem BsR.right {l:List Attr} {n:ByteArray} {i j h:Nat} {a:Attr} (hr:BsR l n i j) (hs:sortedA l=true) (h1:i≤h) (h2:h<j) (ha:l[h]? = some a) (hl:strLt a.name n=false):BsR l n i h:=by
 refine ⟨h1,by have:=hr.2.1;omega,hr.2.2.1,fun k b hk hle=>?_⟩;have A:=posA_spec hs n;cases hc:strLt b.name n with
 | false=>rfl
 | true =>
  have B:=(A k b hk).1 hc;have:=(A h a ha).2 (by omega);rw [hl] at this;cases this
theorem BsR.done {l:List Attr} {n:ByteArray} {i j:Nat} (hr:BsR l n i j) (hs:sortedA l=true) (h:¬ i<j):i=posA l n:=by
 obtain ⟨C,D,A,B⟩:=hr;exact (posA_unique hs (by omega) A (fun k a hk hle=>B k a hk (by omega))).symm
theorem atA_some {l:List Attr} {n:ByteArray} {a:Attr} (h:l[posA l n]? = some a):atA l n=decide (a.name=n):=by unfold atA;rw [h]
theorem atA_end {l:List Attr} {n:ByteArray} (h:¬ posA l n<l.length):atA l n=false:=by
 unfold atA;rw [List.getElem?_eq_none (by omega)]
theorem atA_lt {l:List Attr} {n:ByteArray} (h:atA l n=true):posA l n<l.length:=Decidable.byContradiction fun hc=>by rw [atA_end hc] at h;cases h
theorem sl_head {w:World} {B c:Nat} {A:Option Addr} {l:List Attr} (h:Sl w B A c l) {k:Nat} (hk:k≤l.length):Sl w B A k (l.take k):=by
 refine ⟨by rw [List.length_take];omega,by have:=h.2.1;have:=h.1;omega,fun hn=>?_⟩;rw [List.length_take] at hn;obtain ⟨b',o',e,D,C⟩:=h.2.2 (by omega);refine ⟨b',o',e,D,fun i x hx=>?_⟩;rw [List.getElem?_take] at hx;split at hx
 · exact C i x hx
 cases hx
theorem ret_bs {l:List Attr} {n:ByteArray} {i:Int} {b:Bool} (h:i=(posA l n:Int)∧atA l n=b):Ending.returned (.tuple #[.int .i64 i,.bool b])=.returned (.tuple #[.int .i64 (posA l n:Int),.bool (atA l n)]):=by rw [h.1,h.2]
theorem bs_rel (h:Nat):Value.int .i64 ((h:Int)+1)=Value.int .i64 ((h+1:Nat):Int):=by rw [show ((h:Int)+1)=((h+1:Nat):Int) by omega]
theorem bs_meas {i j h:Nat} (h1:i≤h) (h2:h<j):(intOf (Value.int .i64 (j:Int))).toNat - (intOf (Value.int .i64 ((h:Int)+1))).toNat<(intOf (Value.int .i64 (j:Int))).toNat - (intOf (Value.int .i64 (i:Int))).toNat:=by
 simp only [intOf];omega
theorem cmp_lt {a n:ByteArray} {z:Int} (h:cmpB a n=z):strLt a n=decide (z<0):=by
 rw [Bool.eq_iff_iff,strLt_iff,h,decide_eq_true_eq]
theorem cmp_eq {a n:ByteArray} {z:Int} (h:cmpB a n=z):decide (a=n)=(z == 0):=by
 rw [Bool.eq_iff_iff,decide_eq_true_eq,beq_iff_eq,← h];exact ⟨cmpB_eq,cmpB_zero⟩
theorem set1_any (d:Attr) (n:ByteArray) (w:World):Calls Tryz.prog 144 #[.agg #[.string d.name,.string d.value],.string n] w fun e w'=>e=.returned (.int .i64 (cmpB d.name n))∧Below w.heap.size w w':=by
 go_enter Tryz.func144,Tryz.ntmps144;go_upto_region 1 with fail
 obtain ⟨I,E,A,D,B⟩:=bx_ w [.string d.name,.string d.value] 53;try simp only [E]
 have C:=Lh_ A;clear E A;try rw [← D.out]
 have H:=B.out.1 0 _ rfl;go_wp2_with fail;refine (stringsCompare_any d.name n _).mono ?_;rintro e w9 ⟨rfl,F⟩;rw [F];clear F w9;obtain ⟨z,hz⟩:∃ z,cmpB d.name n=z:=⟨_,rfl⟩;rw [hz];have G:=Lh_ hz;clear hz;go_wp2;go_ret;exact ⟨by rw [G.out];rfl,C.out⟩
set_option maxRecDepth 100000 in
set_option maxHeartbeats 4000000 in
theorem BSearch_any (A:Option Addr) (c:Nat) (xs:List Attr) (n:ByteArray) (w:World) (B:Nat) (hB:B≤w.heap.size) (hx:Sl w B A c xs) (hs:sortedA xs=true) (hl:xs.length≤4611686018427387904) :
  Calls Tryz.prog 143 #[.slice A xs.length c,.string n,.func (.func 144) #[] #[]] w fun e w'=>e=.returned (.tuple #[.int .i64 (posA xs n:Int),.bool (atA xs n)])∧Below w.heap.size w w':=by
 have M0:=hx.1;have A0:=hx.2.1;unfold maxLen at A0;have J0:=enters_of Tryz.func144 (by kernel_rfl) rfl;have HX:=Lh_ hx;have HB:=Lh_ hB;have S:=Lh_ hs;clear hx hB hs;go_enter Tryz.func143,Tryz.ntmps143;go_wp2_with fail;go_loopw [9,10] (fun u v wr=>∃ i j:Nat,u=.int .i64 (i:Int)∧v=.int .i64 (j:Int)∧Hid (BsR xs n i j)∧Hid (Below w.heap.size w wr)) (fun u v _=>(intOf v).toNat - (intOf u).toNat)
 case atStart=>exact ⟨0,xs.length,rfl,rfl,Lh_ (BsR.start xs n),Lh_ (Below.refl _ _)⟩
 obtain ⟨i,j,rfl,rfl,M,D⟩:=hrel;have K0:=M.out.1;have L0:=M.out.2.1;by_cases hlt:i<j
 ·
  have i1:(i:Int)<(j:Int):=by omega
  obtain ⟨h,hh⟩:∃ h,(i+j) / 2=h:=⟨_,rfl⟩;have T:i≤h:=by omega
  have U:h<j:=by omega
  have V:h<xs.length:=by omega
  have i3:(h:Int)<(xs.length:Int):=by omega
  have N:((i:Int)+(j:Int)) / 2=(h:Int):=by omega
  have D0:IntKind.i64.wrap ((i:Int)+(j:Int))=((i+j:Nat):Int):=by rw [IntKind.wrap_i64];omega
  have X:wrap64 ((i:Int)+(j:Int))=((i+j:Nat):Int):=by unfold wrap64;omega
  have E0:IntKind.u64.wrap ((i+j:Nat):Int)=((i+j:Nat):Int):=by simp only [IntKind.wrap,IntKind.signed,IntKind.bits];first | omega | (simp;omega)
  have F0:IntKind.i64.wrap (h:Int)=(h:Int):=by rw [IntKind.wrap_i64];omega
  obtain ⟨b,o,rfl,Y,I,F,G⟩:=(HX.out.keep (D.out.mono HB.out)).attr V;have C:xs[h]? = some xs[h]:=List.getElem?_eq_getElem V;obtain ⟨y,hy⟩:∃ y,xs[h]'V=y:=⟨_,rfl⟩;rw [hy] at I F G C;have O:=Lh_ C;clear hy I Y C;go_upto_region 5 with fail
  go_wp2_with fail;refine Calls.mono (R:=fun e W'=>e=.returned (.int .i64 (cmpB y.name n))∧Below wr.heap.size wr W') ?_ ?_
  · first | exact set1_any y n wr | simpa using set1_any y n wr
  rintro e w1 ⟨rfl,E⟩;have J:=tb_ D E;clear E F G;obtain ⟨z,hz⟩:∃ z,cmpB y.name n=z:=⟨_,rfl⟩;rw [hz];have K:=Lh_ (cmp_lt hz);clear hz;by_cases hz0:z<0
  ·
   have G0:IntKind.i64.wrap ((h:Int)+1)=((h+1:Nat):Int):=by rw [IntKind.wrap_i64];omega
   have Z:wrap64 ((h:Int)+1)=((h+1:Nat):Int):=by unfold wrap64;omega
   have Q:=Lh_ (M.out.left S.out T U O.out (by rw [K.out];exact decide_eq_true hz0));go_wp2;go_roundw
   case rel=>exact ⟨h+1,j,bs_rel h,rfl,Q,J⟩
   exact bs_meas T U
  have Q:=Lh_ (M.out.right S.out T U O.out (by rw [K.out];exact decide_eq_false hz0));go_wp2;go_roundw
  case rel=>exact ⟨i,h,rfl,by simp only [N],Q,J⟩
  simp only [intOf,N,Int.toNat_natCast];omega
 have i1:¬ (i:Int)<(j:Int):=by omega
 have H:=M.out.done S.out hlt;have L:=Lh_ H;by_cases hin:i<xs.length
 ·
  have i2:(i:Int)<(xs.length:Int):=by omega
  obtain ⟨b,o,rfl,Y,I,F,G⟩:=(HX.out.keep (D.out.mono HB.out)).attr hin;have C:xs[i]? = some xs[i]:=List.getElem?_eq_getElem hin;obtain ⟨y,hy⟩:∃ y,xs[i]'hin=y:=⟨_,rfl⟩;rw [hy] at I F G C;rw [H] at C;have O:=Lh_ (atA_some C);clear hy I Y C H;go_wp2_with fail;refine Calls.mono (R:=fun e W'=>e=.returned (.int .i64 (cmpB y.name n))∧Below wr.heap.size wr W') ?_ ?_
  · first | exact set1_any y n wr | simpa using set1_any y n wr
  rintro e w1 ⟨rfl,E⟩;have J:=tb_ D E;clear E F G;obtain ⟨z,hz⟩:∃ z,cmpB y.name n=z:=⟨_,rfl⟩;rw [hz];have P:=Lh_ (cmp_eq hz);clear hz;obtain ⟨q,hq⟩:∃ q,(z == 0)=q:=⟨_,rfl⟩;have HQ:=Lh_ hq;go_wp2;go_ret2;exact ⟨ret_bs ⟨by rw [L.out],by rw [O.out,P.out,HQ.out]⟩,J.out⟩
 have i2:¬ (i:Int)<(xs.length:Int):=by omega
 have HE:=Lh_ (atA_end (l:=xs) (n:=n) (by rw [← H];exact hin));clear H;go_wp2;go_ret2;exact ⟨ret_bs ⟨by rw [L.out],HE.out⟩,D.out⟩
theorem own_grown {w:World} {T:TypeId} {k cap:Nat} {cs:Array Value} (hk:k≤cap) (hcap:cap≤maxLen) (hcs:cs.size=cap * 2):OwnsS (α:=Attr) (fun _=>False) (w.drew.alloc (.cells cs T)) w.heap.size T (.slice (some ⟨w.heap.size,0,none⟩) 0 cap) []:=by
 refine ⟨[],⟨rfl,.inr ⟨w.heap.size,cap,cs,rfl,Nat.le_refl _,heap_alloc_new w.drew _,Nat.zero_le _,hcap,hcs,by simp⟩⟩,rfl,fun i x cs h=>by simp at h⟩
theorem wpList_appZ {P:Program} {w:World} {ops:Array Oper} {rest:List Oper} {o:Oper} {a:Act} {Q:Exit→Act→World→Prop} {TS TN:TypeId} {R:Value→World→Prop} (hgd:o.guard=none) (s x:Operand) (ho:o.op=.call { callee:=.builtin .append,args:=#[s,x],argTypes:=#[TS,TN] }) (v u:Value) (hs:a.eval s=v) (hx:a.eval x=u)
  (hrun:∃ v' w',(Builtin.append_ #[TS,TN] o.type #[v,u]).run P w=.ok v' w'∧R v' w') (hK:∀ v' w',R v' w'→wpList P ops Q rest (a.put o.dst v') w'):wpList P ops Q (o :: rest) a w:=by
 refine wpList_plain hgd fun K hK'=>?_
 obtain ⟨v',w',B,A⟩:=hrun;unfold Oper.wp execOp;simp only [ho,resolve,invoke,builtin,Sem.run_bind,Sem.run_pure,Result.andThen_ok,List.map_toArray,List.map_cons,List.map_nil,hs,hx,B];exact hK' _ _ (hK _ _ A)
set_option maxRecDepth 100000 in
theorem Grow_any (n:Nat) (w:World) (hn:n≤1000000000) :
  Calls Tryz.prog 175 #[.slice none 0 0,.int .i64 (n:Int)] w fun e w'=>Below w.heap.size w w'∧∃ v,e=.returned v∧OwnsS (α:=Attr) (fun _=>False) w' w.heap.size 53 v []:=by
 obtain ⟨O,Q,G,I,H,F,J⟩:=E_attr.info;have B:0<n→∃ v' w',(Builtin.append_ #[26,3] 26 #[.slice none 0 0,.int .i64 (n:Int)]).run Tryz.prog w=.ok v' w'∧∃ A K,v'=.slice (some ⟨w.heap.size,0,none⟩) n A∧w'=w.drew.alloc (.cells K 53)∧n≤A∧A≤maxLen∧K.size=A * 2:=fun h0=>by
  have N:=Lib.run_append_nil_zeros (P:=Tryz.prog) w 26 3 26 53 O Q .i64 .i64 Tryz.underlying26 Tryz.underlying3 G I n h0 (by rw [H];show 0<2;omega) (by omega) (by rw [F];omega);have M:=grownCap_ge w n 0 53;refine ⟨_,_,N,_,_,rfl,rfl,M,grownCap_le_maxLen w n 0 _ (by unfold maxLen;omega),?_⟩;rw [Array.size_append,size_zeroCells,size_zeroCells,J,show Rep.size Attr=2 from rfl];omega
 have E:=Lh_ B;clear B G I H F J;go_enter Tryz.func175,Tryz.ntmps175;have w1:IntKind.i64.wrap ((n:Int) - 0)=(n:Int):=by rw [IntKind.wrap_i64];omega
 have U:wrap64 ((n:Int) - 0)=(n:Int):=by unfold wrap64;omega
 have V:IntKind.i64.wrap ((0:Int) - 0)=0:=by decide
 have W:wrap64 ((n:Int))=(n:Int):=by unfold wrap64;omega
 have T:¬ (n:Int)<0:=by omega
 by_cases h0:n=0
 ·
  subst h0;go_wp2;go_ret;exact ⟨Below.refl _ _,_,rfl,OwnsS.nil_ _ _ _ _⟩
 have R:(0:Int)<(n:Int):=by omega
 have S:(n:Int) > 0:=by omega
 go_wp2_with (at_builtin;go_must (refine wpList_appZ rfl _ _ rfl (.slice none 0 0) (.int .i64 (n:Int)) rfl rfl (E.out (by omega)) ?_);rintro v1 w1' ⟨A,K,rfl,rfl,C,D,L⟩);go_ret;exact ⟨(show Below w.heap.size w w.drew from below_drewN_self w w.heap.size 1).alloc (Nat.le_refl _) _,_,rfl,own_grown C D L⟩
theorem own_anyF {F F':Nat→Prop} {w:World} {base:Nat} {T:TypeId} {v:Value} {l:List Attr} (h:OwnsS F w base T v l):OwnsS F' w base T v l:=by
 obtain ⟨A,B,C,D⟩:=h;exact ⟨A,B,C,fun i x cs hx hcs=>D i x cs hx hcs⟩
theorem cell_old31 {w w':World} {b o:Nat} {v:Value} (h:w.cell? ⟨b,o,none⟩=some v) (hb:Below w.heap.size w w'):w'.cell? ⟨b,o,none⟩=some v:=(hb.cell (p:=⟨b,o,none⟩) (block_lt_of_cell h)).trans h
theorem srcA {w wr:World} {A:Option Addr} {c:Nat} {l:List Attr} {v:Value} (h:Sl w w.heap.size A c l∨l=[]) (hb:Below w.heap.size w wr) (hv:∀ q,v.ownBlock=some q→w.heap.size≤q∧q<wr.heap.size):SlS wr (fun b=>(fun _=>True) b∧b<wr.heap.size∧v.ownBlock≠some b) A c l∨l=[]:=by
 rcases h with h | h
 ·
  left
  refine (SlS_iff.1 (h.keep hb)).mono (fun b hlt=>⟨trivial,Nat.lt_of_lt_of_le hlt hb.size,fun e=>?_⟩) (fun _ _ _ _ hu=>hu);have B:b<w.heap.size:=hlt;have:=(hv b e).1;omega
 exact .inr h
set_option maxRecDepth 100000 in
set_option maxHeartbeats 4000000 in
theorem Concat_any (b:Nat) (A0 A1:Option Addr) (c0_ c1_:Nat) (xs ys:List Attr) (w:World) (c0:w.cell? ⟨b,0,none⟩=some (.slice A0 xs.length c0_)) (c1:w.cell? ⟨b,1,none⟩=some (.slice A1 ys.length c1_)) (hx:Sl w w.heap.size A0 c0_ xs∨xs=[]) (hy:Sl w w.heap.size A1 c1_ ys∨ys=[]) (hl:xs.length≤1000000∧ys.length≤1000000) :
  Calls Tryz.prog 145 #[.slice (some ⟨b,0,none⟩) 2 2] w fun e w'=>Below w.heap.size w w'∧∃ v,e=.returned v∧OwnsS (fun _=>False) w' w.heap.size 53 v (xs ++ ys):=by
 have W:=Lh_ hx;have X:=Lh_ hy;have N:=Lh_ c0;have O:=Lh_ c1;have M:=Lh_ hl;clear hx hy;go_enter Tryz.func145,Tryz.ntmps145;go_wp2_with fail;go_loop [3,11] (fun s i=>(i=.int .i64 0∧s=.int .i64 0)∨(i=.int .i64 1∧s=.int .i64 (xs.length:Int))∨(i=.int .i64 2∧s=.int .i64 ((xs.length+ys.length:Nat):Int))) (fun _ i=>2 - (intOf i).toNat)
 case atStart=>exact .inl ⟨rfl,rfl⟩
 have Y:=M.out.1;have Z:=M.out.2;have w1:IntKind.i64.wrap ((0:Int)+(xs.length:Int))=(xs.length:Int):=by rw [IntKind.wrap_i64];omega
 have S:IntKind.i64.wrap ((xs.length:Int)+(ys.length:Int))=((xs.length+ys.length:Nat):Int):=by rw [IntKind.wrap_i64];omega
 have w3:wrap64 ((xs.length:Int))=(xs.length:Int):=by unfold wrap64;omega
 have w4:wrap64 ((xs.length:Int)+(ys.length:Int))=((xs.length+ys.length:Nat):Int):=by unfold wrap64;omega
 have n1:¬ (xs.length:Int)<0:=by omega
 have n2:¬ ((xs.length+ys.length:Nat):Int)<0:=by omega
 have n3:¬ (xs.length:Int)+(ys.length:Int)<0:=by omega
 rcases hrel with ⟨rfl,rfl⟩ | ⟨rfl,rfl⟩ | ⟨rfl,rfl⟩
 ·
  go_wp2;go_round
  case rel=>exact .inr (.inl ⟨rfl,by first | rfl | go_num⟩)
  simp [intOf]
 ·
  go_wp2;go_round
  case rel=>exact .inr (.inr ⟨rfl,by first | rfl | go_num⟩)
  simp [intOf]
 go_wp2_with fail;refine (Grow_any (xs.length+ys.length) _ (by omega)).mono ?_;rintro e wa ⟨Q,v0,rfl,H⟩;have P:=Lh_ (show OwnsS (fun _=>True) wa w.heap.size 53 v0 ([]:List Attr) from own_anyF H);have J:=Lh_ Q;clear H Q w1 S w3 w4 n1 n2 n3 c0 c1;have c0:=cell_old31 N.out J.out;have c1:=cell_old31 O.out J.out;have T:=Lh_ c0;have U:=Lh_ c1;go_wp2_with fail;go_loopw [6,27] (fun v i wr=>∃ (k:Nat) (B:List Attr),i=.int .i64 (k:Int)∧Hid ((k=0∧B=[])∨(k=1∧B=xs)∨(k=2∧B=xs ++ ys))∧Hid (OwnsS (fun _=>True) wr w.heap.size 53 v B)∧Hid (Below w.heap.size w wr)) (fun _ i _=>2 - (intOf i).toNat)
 case atStart=>exact ⟨0,[],rfl,Lh_ (.inl ⟨rfl,rfl⟩),P,J⟩
 clear c0 c1;obtain ⟨k,B,rfl,V,R,A⟩:=hrel;have c0:=cell_old31 N.out A.out;have c1:=cell_old31 O.out A.out;have G:=Lh_ (R.out.lt);rcases V.out with ⟨rfl,rfl⟩ | ⟨rfl,rfl⟩ | ⟨rfl,rfl⟩
 ·
  have C:=run_appL E_attr 26 u6 [] R.out A0 c0_ xs (srcA W.out A.out G.out) (by have:=M.out;unfold maxLen;first | omega | (simp;omega)) (by have:=M.out;first | omega | (simp;omega)) A.out.size;have I:=Lh_ C;clear C;go_wp2_with (at_builtin;go_must (refine wpList_app rfl _ _ rfl u6 (.slice A0 xs.length c0_) rfl rfl I.out ?_);rintro v2 S ⟨E,D,L⟩;have F:=Lh_ E;have K:=Lh_ (A.out.grown D A.out.size (fun q hq=>(G.out q hq).1));clear E D L c0 c1);go_roundw
  case rel=>exact ⟨1,xs,rfl,Lh_ (.inr (.inl ⟨rfl,rfl⟩)),by first | exact F | simpa using F,K⟩
  simp [intOf]
 ·
  have C:=run_appL E_attr 26 u6 B R.out A1 c1_ ys (srcA X.out A.out G.out) (by have:=M.out;unfold maxLen;first | omega | (simp;omega)) (by have:=M.out;first | omega | (simp;omega)) A.out.size;have I:=Lh_ C;clear C;go_wp2_with (at_builtin;go_must (refine wpList_app rfl _ _ rfl u6 (.slice A1 ys.length c1_) rfl rfl I.out ?_);rintro v2 S ⟨E,D,L⟩;have F:=Lh_ E;have K:=Lh_ (A.out.grown D A.out.size (fun q hq=>(G.out q hq).1));clear E D L c0 c1);go_roundw
  case rel=>exact ⟨2,B ++ ys,rfl,Lh_ (.inr (.inr ⟨rfl,rfl⟩)),F,K⟩
  simp [intOf]
 go_wp2;go_ret;exact ⟨A.out,_,rfl,own_anyF R.out⟩
theorem tailS {w:World} {B B' c i:Nat} {A Ad:Option Addr} {l:List Attr} (hA:(if c=i then A else A.map (·.add (i * 2)))=Ad) (h:Sl w B A c l) (hB:B≤B'):Sl w B' Ad (c - i) (l.drop i)∨l.drop i=[]:=by
 rcases (SlS_iff.1 h).drop_ (m:=i) with h1 | h1
 ·
  left
  rw [show Rep.size Attr=2 from rfl,hA] at h1;exact (SlS_iff.2 h1).more hB
 exact .inr h1
theorem tailS1 {w:World} {B c i:Nat} {A Ad:Option Addr} {l:List Attr} (hA:(if c=1 then A else A.map (·.add (1 * 2)))=Ad) (h:Sl w B A c (l.drop i)∨l.drop i=[]):Sl w B Ad (c - 1) (l.drop (i+1))∨l.drop (i+1)=[]:=by
 rcases h with h | h
 ·
  have:=tailS hA h (Nat.le_refl _)
  rw [List.drop_drop] at this;exact this
 right
 rw [← List.drop_drop,h];rfl
set_option maxRecDepth 100000 in
set_option maxHeartbeats 4000000 in
theorem DSet_any (A:Option Addr) (c:Nat) (xs:List Attr) (n x:ByteArray) (w:World) (B:Nat) (hB:B≤w.heap.size) (hx:Sl w B A c xs) (hs:sortedA xs=true) (hl:xs.length≤1000) (h1:n.size≤maxLen) (h2:x.size≤maxLen) :
  Calls Tryz.prog 113 #[.slice A xs.length c,.string n,.string x] w fun e w'=>Below w.heap.size w w'∧∃ v,e=.returned v∧OwnsS (fun _=>False) w' w.heap.size 53 v (setA xs n x):=by
 have O1:=hx.1;have G1:=hx.2.1;unfold maxLen at G1;have HX:=Lh_ hx;have HB:=Lh_ hB;have HS:=Lh_ hs;have HL:=Lh_ hl;have H1:=Lh_ h1;have H2:=Lh_ h2;clear hx hB hs h1 h2;go_enter Tryz.func113,Tryz.ntmps113;go_wp2_with fail;refine (BSearch_any A c xs n _ B HB.out HX.out HS.out (by have:=HL.out;omega)).mono ?_;rintro e w1 ⟨rfl,Y0⟩;have E1:=Lh_ Y0;obtain ⟨i,hi⟩:∃ i,posA xs n=i:=⟨_,rfl⟩;have A1:=posA_le xs n;obtain ⟨q,hq⟩:∃ q,atA xs n=q:=⟨_,rfl⟩;rw [hi] at A1 ⊢;rw [hq];have V:=Lh_ (show setA xs n x=xs.take i ++ ((if x.toList.isEmpty then [] else [⟨n,x⟩]) ++ xs.drop (i+(if q then 1 else 0))) by rw [set_put HS.out];unfold putL;rw [hi,hq]);have D1:=Lh_ (show q=true→i<xs.length from fun h=>by rw [← hi];exact atA_lt (by rw [hq];exact h));clear Y0 hi hq;have m1:(i:Int)≤(xs.length:Int):=by omega
 have m2:(i:Int)≤(c:Int):=by omega
 have m3:i≤c:=by omega
 go_upto_region 2 with fail
 refine wp_region_held_drew (S:=fun w'=>w'=w') (by kernel_rfl) rfl (fun hS0=>?_);obtain ⟨wd,hwd⟩:∃ z,World.drew w1=z:=⟨_,rfl⟩;rw [hwd] at hS0 ⊢;have Z0:Below w1.heap.size w1 wd:=by rw [← hwd];exact below_drewN_self _ _ 1
 clear hwd hS0;have C:=tb_ E1 Z0;clear Z0;refine tk1 0 17 (.slice A xs.length c) rfl (fun w' hS=>by go_simp) (by trivial) ?_;try simp only [zP,zA,zB,zC]
 refine tk1 1 18 (.int .i64 i) rfl (fun w' hS=>by go_simp) (by trivial) ?_;try simp only [zP,zA,zB,zC]
 refine tk1 2 19 (.int .i64 i) rfl (fun w' hS=>by go_simp) (by trivial) ?_;try simp only [zP,zA,zB,zC]
 refine tk1 3 20 (.slice A i i) rfl (fun w' hS=>by (rw [← sliced_take (A:=A) (c:=i) (m:=i) (s:=2)];go_simp)) (by trivial) ?_;try simp only [zP,zA,zB,zC]
 refine tk1 4 21 (.slice A xs.length c) rfl (fun w' hS=>by go_simp) (by trivial) ?_;try simp only [zP,zA,zB,zC]
 refine tk1 5 22 (.int .i64 i) rfl (fun w' hS=>by go_simp) (by trivial) ?_;try simp only [zP,zA,zB,zC]
 obtain ⟨Ad,hAd⟩:∃ z,(if c=i then A else A.map (·.add (i * 2)))=z:=⟨_,rfl⟩;have V0:=Lh_ hAd;clear hAd;refine tk1 6 23 (.slice Ad (xs.length - i) (c - i)) rfl (fun w' hS=>by (rw [show (Value.slice Ad (xs.length - i) (c - i))=sliced A i xs.length c 2 by unfold sliced;rw [V0.out]];go_simp)) (by trivial) ?_;try simp only [zP,zA,zB,zC]
 refine tk1 7 9 (.slice A i i) rfl (fun w' hS=>by go_simp) (by trivial) ?_;try simp only [zP,zA,zB,zC]
 refine tk1 8 10 (.slice Ad (xs.length - i) (c - i)) rfl (fun w' hS=>by go_simp) (by trivial) ?_;try simp only [zP,zA,zB,zC]
 refine wpAnyH_done (by kernel_rfl) ?_ _;have X0:=Lh_ (show Sl wd wd.heap.size Ad (c - i) (xs.drop i)∨xs.drop i=[] from tailS V0.out (HX.out.keep (C.out.mono HB.out)) (Nat.le_trans HB.out C.out.size));have W:=Lh_ (show Sl wd wd.heap.size A i (xs.take i) from (sl_head (HX.out.keep (C.out.mono HB.out)) A1).more (Nat.le_trans HB.out C.out.size));have I:=Lh_ (show (xs.drop i).length=xs.length - i∧(xs.take i).length=i from ⟨List.length_drop,by rw [List.length_take];omega⟩);cases q
 ·
  have HT:=X0;have H:=Lh_ (show (xs.drop i).length=xs.length - i from I.out.1);have I0:=Lh_ (show xs.drop (i+(if false=true then 1 else 0))=xs.drop i by simp);have L:=Lh_ (show (xs.drop i).length≤1000000∧(xs.take i).length≤1000000 by have:=HL.out;have:=I.out;constructor;(rw [H.out];omega);omega);by_cases hv:x.toList.isEmpty=true
  ·
   have R0:(x.toList == (⟨#[]⟩:ByteArray).toList)=true:=by rw [show (⟨#[]⟩:ByteArray).toList=[] by decide +kernel];cases hq:x.toList with | nil=>rfl | cons a r=>rw [hq] at hv;cases hv
   have S0:(x.toList == [])=true:=by cases hq:x.toList with | nil=>rfl | cons a r=>rw [hq] at hv;cases hv
   have HV:=Lh_ hv;clear hv;obtain ⟨wa,hwa⟩:∃ z,wd.alloc (.cells #[.slice A i i,.slice Ad (xs.length - i) (c - i)] 26)=z:=⟨_,rfl⟩;have N:Below wd.heap.size wd wa:=by rw [← hwa];exact (Below.refl _ _).alloc (Nat.le_refl _) _
   have O:BoxL wa wd.heap.size [.slice A i i,.slice Ad (xs.length - i) (c - i)]:=box_mk hwa;have D:=Lh_ N;have R:=Lh_ O;clear N O;go_wp2_with fail;refine (Concat_any wd.heap.size A Ad i ((c - i)) (xs.take i) (xs.drop i) _ (by rw [I.out.2];exact R.out.1 0 _ rfl) (by rw [H.out];exact R.out.1 1 _ rfl) (.inl (W.out.next (Nat.le_refl _) D.out)) (HT.out.imp (fun h=>h.next (Nat.le_refl _) D.out) id) ⟨L.out.2,L.out.1⟩).mono ?_;rintro e wb ⟨M,v,rfl,E⟩;have U:=tb_ D M;have K:=Lh_ (E.low (show wd.heap.size≤wa.heap.size from D.out.size));clear M E hwa;have HF:=Lh_ (C.out.trans (U.out.mono C.out.size));go_wp2;go_ret;exact ⟨HF.out,_,rfl,by rw [V.out,if_pos HV.out,List.nil_append,I0.out];exact K.out.low C.out.size⟩
  have Q:x.toList.isEmpty=false:=by simpa using hv
  have R0:(x.toList == (⟨#[]⟩:ByteArray).toList)=false:=by rw [show (⟨#[]⟩:ByteArray).toList=[] by decide +kernel];cases hq:x.toList with | nil=>rw [hq] at Q;cases Q | cons a r=>rfl
  have S0:(x.toList == [])=false:=by cases hq:x.toList with | nil=>rw [hq] at Q;cases Q | cons a r=>rfl
  have HV:=Lh_ hv;clear hv Q;obtain ⟨wa,hwa⟩:∃ z,wd.alloc (.cells #[.string n,.string x] 53)=z:=⟨_,rfl⟩;have N:Below wd.heap.size wd wa:=by rw [← hwa];exact (Below.refl _ _).alloc (Nat.le_refl _) _
  have O:BoxL wa wd.heap.size [.string n,.string x]:=box_mk hwa;have D:=Lh_ N;have R:=Lh_ O;clear N O;have P:=run_app_full (F:=fun _=>True) (base:=wa.heap.size) E_attr 26 A (xs.take i) (w:=wa) (S:=fun b=>b<wa.heap.size) (by rw [I.out.2];exact SlS_iff.1 (W.out.next (Nat.le_refl _) D.out)) (fun hA=>by have h:=W.out.2.2;rw [hA] at h;rcases Nat.eq_zero_or_pos (xs.take i).length with h0 | h0;exact List.length_eq_zero_iff.1 h0;obtain ⟨b,o,e,-⟩:=h h0;cases e) wd.heap.size ⟨n,x⟩ (fun j u hu=>R.out.1 j u hu) ⟨H1.out,H2.out⟩ (by have:=L.out.2;unfold maxLen;omega) (by have:=L.out.2;omega) (Nat.le_refl _);rw [I.out.2] at P;have B0:=Lh_ P;clear P;go_wp2_with (at_builtin;go_must (refine wpList_app rfl _ _ rfl (.slice A i i) (.slice (some ⟨wd.heap.size,0,none⟩) 1 1) rfl rfl B0.out ?_);rintro v3 w3 ⟨F0,D0,Q0⟩;have L0:=Lh_ F0;have X:=Lh_ D0;clear F0 D0 Q0 hwa;obtain ⟨A3,c3,T,G0⟩:=L0.out.sl;have G:(xs.take i ++ [(⟨n,x⟩:Attr)]).length=i+1:=(by rw [List.length_append,I.out.2];rfl);rw [G] at T;subst T;have M0:=Lh_ G0;have A0:=Lh_ G;clear G0 G;obtain ⟨w4,hw4⟩:∃ z,w3.alloc (.cells #[.slice A3 (i+1) c3,.slice Ad (xs.length - i) (c - i)] 26)=z:=⟨_,rfl⟩;have E0:Below w3.heap.size w3 w4:=(by rw [← hw4];exact (Below.refl _ _).alloc (Nat.le_refl _) _);have H0:BoxL w4 w3.heap.size [.slice A3 (i+1) c3,.slice Ad (xs.length - i) (c - i)]:=box_mk hw4;have Z:=Lh_ E0;have C0:=Lh_ H0;clear E0 H0);have Y:=Lh_ (X.out.trans (Z.out.mono X.out.size));have J:=Lh_ (D.out.trans (Y.out.mono D.out.size));refine (Concat_any w3.heap.size A3 Ad c3 ((c - i)) (xs.take i ++ [⟨n,x⟩]) (xs.drop i) _ (by rw [A0.out];exact C0.out.1 0 _ rfl) (by rw [H.out];exact C0.out.1 1 _ rfl) (.inl (M0.out.next (Nat.le_refl _) Z.out)) (HT.out.imp (fun h=>h.next (Nat.le_refl _) J.out) id) ⟨by rw [List.length_append,List.length_singleton];have:=I.out.2;have:=HL.out;omega,L.out.1⟩).mono ?_;rintro e wb ⟨M,v,rfl,E⟩;have U:=tb_ J M;have K:=Lh_ (E.low (show wd.heap.size≤w4.heap.size from J.out.size));clear M E hw4;have HF:=Lh_ (C.out.trans (U.out.mono C.out.size));go_wp2;go_ret;exact ⟨HF.out,_,rfl,by rw [V.out,if_neg HV.out,I0.out,← List.append_assoc];exact K.out.low C.out.size⟩
 have J1:=D1.out rfl;have k1:(1:Int)≤((xs.length - i:Nat):Int):=by omega
 have k2:(1:Int)≤((c - i:Nat):Int):=by omega
 have k3:1≤c - i:=by omega
 have k4:1≤xs.length - i:=by omega
 have H:=Lh_ (show (xs.drop (i+1)).length=xs.length - i - 1 by rw [List.length_drop];omega);have I0:=Lh_ (show xs.drop (i+(if true=true then 1 else 0))=xs.drop (i+1) by simp);by_cases hc1:c - i=1
 ·
  have HT:=Lh_ (show Sl wd wd.heap.size Ad 0 (xs.drop (i+1))∨xs.drop (i+1)=[] from .inr (List.drop_eq_nil_of_le (by omega)));go_upto_region 5 with fail
  clear k1 k2 k3 k4;have L:=Lh_ (show (xs.drop (i+1)).length≤1000000∧(xs.take i).length≤1000000 by have:=HL.out;have:=I.out;constructor;(rw [H.out];omega);omega);by_cases hv:x.toList.isEmpty=true
  ·
   have R0:(x.toList == (⟨#[]⟩:ByteArray).toList)=true:=by rw [show (⟨#[]⟩:ByteArray).toList=[] by decide +kernel];cases hq:x.toList with | nil=>rfl | cons a r=>rw [hq] at hv;cases hv
   have S0:(x.toList == [])=true:=by cases hq:x.toList with | nil=>rfl | cons a r=>rw [hq] at hv;cases hv
   have HV:=Lh_ hv;clear hv;obtain ⟨wa,hwa⟩:∃ z,wd.alloc (.cells #[.slice A i i,.slice Ad (xs.length - i - 1) 0] 26)=z:=⟨_,rfl⟩;have N:Below wd.heap.size wd wa:=by rw [← hwa];exact (Below.refl _ _).alloc (Nat.le_refl _) _
   have O:BoxL wa wd.heap.size [.slice A i i,.slice Ad (xs.length - i - 1) 0]:=box_mk hwa;have D:=Lh_ N;have R:=Lh_ O;clear N O;go_wp2_with fail;refine (Concat_any wd.heap.size A Ad i (0) (xs.take i) (xs.drop (i+1)) _ (by rw [I.out.2];exact R.out.1 0 _ rfl) (by rw [H.out];exact R.out.1 1 _ rfl) (.inl (W.out.next (Nat.le_refl _) D.out)) (HT.out.imp (fun h=>h.next (Nat.le_refl _) D.out) id) ⟨L.out.2,L.out.1⟩).mono ?_;rintro e wb ⟨M,v,rfl,E⟩;have U:=tb_ D M;have K:=Lh_ (E.low (show wd.heap.size≤wa.heap.size from D.out.size));clear M E hwa;have HF:=Lh_ (C.out.trans (U.out.mono C.out.size));go_wp2;go_ret;exact ⟨HF.out,_,rfl,by rw [V.out,if_pos HV.out,List.nil_append,I0.out];exact K.out.low C.out.size⟩
  have Q:x.toList.isEmpty=false:=by simpa using hv
  have R0:(x.toList == (⟨#[]⟩:ByteArray).toList)=false:=by rw [show (⟨#[]⟩:ByteArray).toList=[] by decide +kernel];cases hq:x.toList with | nil=>rw [hq] at Q;cases Q | cons a r=>rfl
  have S0:(x.toList == [])=false:=by cases hq:x.toList with | nil=>rw [hq] at Q;cases Q | cons a r=>rfl
  have HV:=Lh_ hv;clear hv Q;obtain ⟨wa,hwa⟩:∃ z,wd.alloc (.cells #[.string n,.string x] 53)=z:=⟨_,rfl⟩;have N:Below wd.heap.size wd wa:=by rw [← hwa];exact (Below.refl _ _).alloc (Nat.le_refl _) _
  have O:BoxL wa wd.heap.size [.string n,.string x]:=box_mk hwa;have D:=Lh_ N;have R:=Lh_ O;clear N O;have P:=run_app_full (F:=fun _=>True) (base:=wa.heap.size) E_attr 26 A (xs.take i) (w:=wa) (S:=fun b=>b<wa.heap.size) (by rw [I.out.2];exact SlS_iff.1 (W.out.next (Nat.le_refl _) D.out)) (fun hA=>by have h:=W.out.2.2;rw [hA] at h;rcases Nat.eq_zero_or_pos (xs.take i).length with h0 | h0;exact List.length_eq_zero_iff.1 h0;obtain ⟨b,o,e,-⟩:=h h0;cases e) wd.heap.size ⟨n,x⟩ (fun j u hu=>R.out.1 j u hu) ⟨H1.out,H2.out⟩ (by have:=L.out.2;unfold maxLen;omega) (by have:=L.out.2;omega) (Nat.le_refl _);rw [I.out.2] at P;have B0:=Lh_ P;clear P;go_wp2_with (at_builtin;go_must (refine wpList_app rfl _ _ rfl (.slice A i i) (.slice (some ⟨wd.heap.size,0,none⟩) 1 1) rfl rfl B0.out ?_);rintro v3 w3 ⟨F0,D0,Q0⟩;have L0:=Lh_ F0;have X:=Lh_ D0;clear F0 D0 Q0 hwa;obtain ⟨A3,c3,T,G0⟩:=L0.out.sl;have G:(xs.take i ++ [(⟨n,x⟩:Attr)]).length=i+1:=(by rw [List.length_append,I.out.2];rfl);rw [G] at T;subst T;have M0:=Lh_ G0;have A0:=Lh_ G;clear G0 G;obtain ⟨w4,hw4⟩:∃ z,w3.alloc (.cells #[.slice A3 (i+1) c3,.slice Ad (xs.length - i - 1) 0] 26)=z:=⟨_,rfl⟩;have E0:Below w3.heap.size w3 w4:=(by rw [← hw4];exact (Below.refl _ _).alloc (Nat.le_refl _) _);have H0:BoxL w4 w3.heap.size [.slice A3 (i+1) c3,.slice Ad (xs.length - i - 1) 0]:=box_mk hw4;have Z:=Lh_ E0;have C0:=Lh_ H0;clear E0 H0);have Y:=Lh_ (X.out.trans (Z.out.mono X.out.size));have J:=Lh_ (D.out.trans (Y.out.mono D.out.size));refine (Concat_any w3.heap.size A3 Ad c3 (0) (xs.take i ++ [⟨n,x⟩]) (xs.drop (i+1)) _ (by rw [A0.out];exact C0.out.1 0 _ rfl) (by rw [H.out];exact C0.out.1 1 _ rfl) (.inl (M0.out.next (Nat.le_refl _) Z.out)) (HT.out.imp (fun h=>h.next (Nat.le_refl _) J.out) id) ⟨by rw [List.length_append,List.length_singleton];have:=I.out.2;have:=HL.out;omega,L.out.1⟩).mono ?_;rintro e wb ⟨M,v,rfl,E⟩;have U:=tb_ J M;have K:=Lh_ (E.low (show wd.heap.size≤w4.heap.size from J.out.size));clear M E hw4;have HF:=Lh_ (C.out.trans (U.out.mono C.out.size));go_wp2;go_ret;exact ⟨HF.out,_,rfl,by rw [V.out,if_neg HV.out,I0.out,← List.append_assoc];exact K.out.low C.out.size⟩
 go_upto_region 5 with fail
 obtain ⟨At,hAt⟩:∃ z,Ad.map (·.add (1 * 2))=z:=⟨_,rfl⟩;have P0:Ad.map (·.add 2)=At:=hAt;simp [Addr.add] at P0
 have HT:=Lh_ (show Sl wd wd.heap.size At (c - i - 1) (xs.drop (i+1))∨xs.drop (i+1)=[] from tailS1 (by rw [if_neg hc1];exact hAt) X0.out);rw [P0];clear hAt P0 k1 k2 k3 k4 hc1;have L:=Lh_ (show (xs.drop (i+1)).length≤1000000∧(xs.take i).length≤1000000 by have:=HL.out;have:=I.out;constructor;(rw [H.out];omega);omega);by_cases hv:x.toList.isEmpty=true
 ·
  have R0:(x.toList == (⟨#[]⟩:ByteArray).toList)=true:=by rw [show (⟨#[]⟩:ByteArray).toList=[] by decide +kernel];cases hq:x.toList with | nil=>rfl | cons a r=>rw [hq] at hv;cases hv
  have S0:(x.toList == [])=true:=by cases hq:x.toList with | nil=>rfl | cons a r=>rw [hq] at hv;cases hv
  have HV:=Lh_ hv;clear hv;obtain ⟨wa,hwa⟩:∃ z,wd.alloc (.cells #[.slice A i i,.slice At (xs.length - i - 1) (c - i - 1)] 26)=z:=⟨_,rfl⟩;have N:Below wd.heap.size wd wa:=by rw [← hwa];exact (Below.refl _ _).alloc (Nat.le_refl _) _
  have O:BoxL wa wd.heap.size [.slice A i i,.slice At (xs.length - i - 1) (c - i - 1)]:=box_mk hwa;have D:=Lh_ N;have R:=Lh_ O;clear N O;go_wp2_with fail;refine (Concat_any wd.heap.size A At i ((c - i - 1)) (xs.take i) (xs.drop (i+1)) _ (by rw [I.out.2];exact R.out.1 0 _ rfl) (by rw [H.out];exact R.out.1 1 _ rfl) (.inl (W.out.next (Nat.le_refl _) D.out)) (HT.out.imp (fun h=>h.next (Nat.le_refl _) D.out) id) ⟨L.out.2,L.out.1⟩).mono ?_;rintro e wb ⟨M,v,rfl,E⟩;have U:=tb_ D M;have K:=Lh_ (E.low (show wd.heap.size≤wa.heap.size from D.out.size));clear M E hwa;have HF:=Lh_ (C.out.trans (U.out.mono C.out.size));go_wp2;go_ret;exact ⟨HF.out,_,rfl,by rw [V.out,if_pos HV.out,List.nil_append,I0.out];exact K.out.low C.out.size⟩
 have Q:x.toList.isEmpty=false:=by simpa using hv
 have R0:(x.toList == (⟨#[]⟩:ByteArray).toList)=false:=by rw [show (⟨#[]⟩:ByteArray).toList=[] by decide +kernel];cases hq:x.toList with | nil=>rw [hq] at Q;cases Q | cons a r=>rfl
 have S0:(x.toList == [])=false:=by cases hq:x.toList with | nil=>rw [hq] at Q;cases Q | cons a r=>rfl
 have HV:=Lh_ hv;clear hv Q;obtain ⟨wa,hwa⟩:∃ z,wd.alloc (.cells #[.string n,.string x] 53)=z:=⟨_,rfl⟩;have N:Below wd.heap.size wd wa:=by rw [← hwa];exact (Below.refl _ _).alloc (Nat.le_refl _) _
 have O:BoxL wa wd.heap.size [.string n,.string x]:=box_mk hwa;have D:=Lh_ N;have R:=Lh_ O;clear N O;have P:=run_app_full (F:=fun _=>True) (base:=wa.heap.size) E_attr 26 A (xs.take i) (w:=wa) (S:=fun b=>b<wa.heap.size) (by rw [I.out.2];exact SlS_iff.1 (W.out.next (Nat.le_refl _) D.out)) (fun hA=>by have h:=W.out.2.2;rw [hA] at h;rcases Nat.eq_zero_or_pos (xs.take i).length with h0 | h0;exact List.length_eq_zero_iff.1 h0;obtain ⟨b,o,e,-⟩:=h h0;cases e) wd.heap.size ⟨n,x⟩ (fun j u hu=>R.out.1 j u hu) ⟨H1.out,H2.out⟩ (by have:=L.out.2;unfold maxLen;omega) (by have:=L.out.2;omega) (Nat.le_refl _);rw [I.out.2] at P;have B0:=Lh_ P;clear P;go_wp2_with (at_builtin;go_must (refine wpList_app rfl _ _ rfl (.slice A i i) (.slice (some ⟨wd.heap.size,0,none⟩) 1 1) rfl rfl B0.out ?_);rintro v3 w3 ⟨F0,D0,Q0⟩;have L0:=Lh_ F0;have X:=Lh_ D0;clear F0 D0 Q0 hwa;obtain ⟨A3,c3,T,G0⟩:=L0.out.sl;have G:(xs.take i ++ [(⟨n,x⟩:Attr)]).length=i+1:=(by rw [List.length_append,I.out.2];rfl);rw [G] at T;subst T;have M0:=Lh_ G0;have A0:=Lh_ G;clear G0 G;obtain ⟨w4,hw4⟩:∃ z,w3.alloc (.cells #[.slice A3 (i+1) c3,.slice At (xs.length - i - 1) (c - i - 1)] 26)=z:=⟨_,rfl⟩;have E0:Below w3.heap.size w3 w4:=(by rw [← hw4];exact (Below.refl _ _).alloc (Nat.le_refl _) _);have H0:BoxL w4 w3.heap.size [.slice A3 (i+1) c3,.slice At (xs.length - i - 1) (c - i - 1)]:=box_mk hw4;have Z:=Lh_ E0;have C0:=Lh_ H0;clear E0 H0);have Y:=Lh_ (X.out.trans (Z.out.mono X.out.size));have J:=Lh_ (D.out.trans (Y.out.mono D.out.size));refine (Concat_any w3.heap.size A3 At c3 ((c - i - 1)) (xs.take i ++ [⟨n,x⟩]) (xs.drop (i+1)) _ (by rw [A0.out];exact C0.out.1 0 _ rfl) (by rw [H.out];exact C0.out.1 1 _ rfl) (.inl (M0.out.next (Nat.le_refl _) Z.out)) (HT.out.imp (fun h=>h.next (Nat.le_refl _) J.out) id) ⟨by rw [List.length_append,List.length_singleton];have:=I.out.2;have:=HL.out;omega,L.out.1⟩).mono ?_;rintro e wb ⟨M,v,rfl,E⟩;have U:=tb_ J M;have K:=Lh_ (E.low (show wd.heap.size≤w4.heap.size from J.out.size));clear M E hw4;have HF:=Lh_ (C.out.trans (U.out.mono C.out.size));go_wp2;go_ret;exact ⟨HF.out,_,rfl,by rw [V.out,if_neg HV.out,I0.out,← List.append_assoc];exact K.out.low C.out.size⟩
def SlPost (l:List Attr) (w:World) (e:Ending) (w':World):Prop:=Below w.heap.size w w'∧∃ A c,e=.returned (.slice A l.length c)∧Sl w' w'.heap.size A c l
def baseK (x:ByteArray):Bool:=baseKeys.any fun k=>decide (x=k)
theorem baseK_contains (x:ByteArray):Lib.containsS (baseKeys.take 7) x=baseK x:=by
 rw [show baseKeys.take 7=baseKeys from rfl,Bool.eq_iff_iff,Lib.containsS_iff];unfold baseK;rw [List.any_eq_true];constructor
 · intro h;exact ⟨x,h,decide_eq_true rfl⟩
 rintro ⟨k,A,e⟩;rw [of_decide_eq_true e];exact A
theorem str_eq {x:ByteArray} {l:List UInt8} {a:Array UInt8} (ha:(⟨a⟩:ByteArray).toList=l):(x.toList == l)=decide (x=⟨a⟩):=by
 rw [← ha];exact ba_beq x ⟨a⟩
theorem BKey_any (x:ByteArray) (w:World):Calls Tryz.prog 111 #[.string x] w fun e w'=>e=.returned (.bool (baseK x))∧Below w.heap.size w w':=by
 go_enter Tryz.func111,Tryz.ntmps111;obtain ⟨wa,hwa⟩:∃ z,w.alloc (.cells #[.string ⟨#[68,69,86,78,65,77,69]⟩,.string ⟨#[68,69,86,80,65,84,72]⟩,.string ⟨#[68,82,73,86,69,82]⟩,.string ⟨#[73,78,84,69,82,70,65,67,69]⟩,.string ⟨#[77,79,68,65,76,73,65,83]⟩,.string ⟨#[78,85,77,66,69,82]⟩,.string ⟨#[83,85,66,83,89,83,84,69,77]⟩] 9)=z:=⟨_,rfl⟩;have A:Below w.heap.size w wa:=by rw [← hwa];exact (Below.refl _ _).alloc (Nat.le_refl _) _
 have B:BoxL wa w.heap.size [.string ⟨#[68,69,86,78,65,77,69]⟩,.string ⟨#[68,69,86,80,65,84,72]⟩,.string ⟨#[68,82,73,86,69,82]⟩,.string ⟨#[73,78,84,69,82,70,65,67,69]⟩,.string ⟨#[77,79,68,65,76,73,65,83]⟩,.string ⟨#[78,85,77,66,69,82]⟩,.string ⟨#[83,85,66,83,89,83,84,69,77]⟩]:=box_mk hwa;have D:=Lh_ A;have E:=Lh_ B;clear A B;go_wp2_with fail;try rw [hwa]
 refine (Tryz.slices_Contains_string w.heap.size 0 7 7 baseKeys x _ (by decide) (by decide) (fun j hj=>?_)).mono ?_
 ·
  have F:j<7:=hj;rw [Nat.zero_add];refine E.out.1 j _ ?_;rcases j with _ | _ | _ | _ | _ | _ | _ | j <;> first | rfl | omega
 rintro e w9 ⟨rfl,C⟩;rw [C];clear C w9;rw [baseK_contains];clear hwa;go_wp2;go_ret;exact ⟨rfl,D.out⟩
theorem RBKey_any (x:ByteArray) (w:World):Calls Tryz.prog 101 #[.string x] w fun e w'=>e=.returned (.bool (baseK x))∧w'=w:=by
 have D:=str_eq (x:=x) (a:=#[68,69,86,78,65,77,69]) (l:=[68,69,86,78,65,77,69]) (by decide +kernel);have E:=str_eq (x:=x) (a:=#[68,69,86,80,65,84,72]) (l:=[68,69,86,80,65,84,72]) (by decide +kernel);have F:=str_eq (x:=x) (a:=#[68,82,73,86,69,82]) (l:=[68,82,73,86,69,82]) (by decide +kernel);have A:=str_eq (x:=x) (a:=#[73,78,84,69,82,70,65,67,69]) (l:=[73,78,84,69,82,70,65,67,69]) (by decide +kernel);have C:=str_eq (x:=x) (a:=#[77,79,68,65,76,73,65,83]) (l:=[77,79,68,65,76,73,65,83]) (by decide +kernel);have G:=str_eq (x:=x) (a:=#[78,85,77,66,69,82]) (l:=[78,85,77,66,69,82]) (by decide +kernel);have B:=str_eq (x:=x) (a:=#[83,85,66,83,89,83,84,69,77]) (l:=[83,85,66,83,89,83,84,69,77]) (by decide +kernel);have H:=Lh_ (show baseK x=((x.toList == [68,69,86,78,65,77,69]) || (x.toList == [68,69,86,80,65,84,72]) || (x.toList == [68,82,73,86,69,82]) || (x.toList == [73,78,84,69,82,70,65,67,69]) || (x.toList == [77,79,68,65,76,73,65,83]) || (x.toList == [78,85,77,66,69,82]) || (x.toList == [83,85,66,83,89,83,84,69,77])) by rw [Bool.eq_iff_iff];simp only [baseK,baseKeys,List.any_cons,List.any_nil,Bool.or_false,Bool.or_eq_true,D,E,F,A,C,G,B,decide_eq_true_eq,or_assoc];exact Iff.rfl);clear D E F A C G B;go_enter Tryz.func101,Tryz.ntmps101;cases c0:(x.toList == [68,69,86,78,65,77,69])
 ·
  have J:(x.toList == (⟨#[68,69,86,78,65,77,69]⟩:ByteArray).toList)=false:=by rw [show (⟨#[68,69,86,78,65,77,69]⟩:ByteArray).toList=[68,69,86,78,65,77,69] by decide +kernel];exact c0
  cases c1:(x.toList == [68,69,86,80,65,84,72])
  ·
   have K:(x.toList == (⟨#[68,69,86,80,65,84,72]⟩:ByteArray).toList)=false:=by rw [show (⟨#[68,69,86,80,65,84,72]⟩:ByteArray).toList=[68,69,86,80,65,84,72] by decide +kernel];exact c1
   cases c2:(x.toList == [68,82,73,86,69,82])
   ·
    have L:(x.toList == (⟨#[68,82,73,86,69,82]⟩:ByteArray).toList)=false:=by rw [show (⟨#[68,82,73,86,69,82]⟩:ByteArray).toList=[68,82,73,86,69,82] by decide +kernel];exact c2
    cases c3:(x.toList == [73,78,84,69,82,70,65,67,69])
    ·
     have M:(x.toList == (⟨#[73,78,84,69,82,70,65,67,69]⟩:ByteArray).toList)=false:=by rw [show (⟨#[73,78,84,69,82,70,65,67,69]⟩:ByteArray).toList=[73,78,84,69,82,70,65,67,69] by decide +kernel];exact c3
     cases c4:(x.toList == [77,79,68,65,76,73,65,83])
     ·
      have N:(x.toList == (⟨#[77,79,68,65,76,73,65,83]⟩:ByteArray).toList)=false:=by rw [show (⟨#[77,79,68,65,76,73,65,83]⟩:ByteArray).toList=[77,79,68,65,76,73,65,83] by decide +kernel];exact c4
      cases c5:(x.toList == [78,85,77,66,69,82])
      ·
       have O:(x.toList == (⟨#[78,85,77,66,69,82]⟩:ByteArray).toList)=false:=by rw [show (⟨#[78,85,77,66,69,82]⟩:ByteArray).toList=[78,85,77,66,69,82] by decide +kernel];exact c5
       cases c6:(x.toList == [83,85,66,83,89,83,84,69,77])
       ·
        have P:(x.toList == (⟨#[83,85,66,83,89,83,84,69,77]⟩:ByteArray).toList)=false:=by rw [show (⟨#[83,85,66,83,89,83,84,69,77]⟩:ByteArray).toList=[83,85,66,83,89,83,84,69,77] by decide +kernel];exact c6
        have I:baseK x=false:=by rw [H.out];simp only [c0,c1,c2,c3,c4,c5,c6,Bool.or_false,Bool.false_or]
        clear H;go_wp2;go_ret;exact ⟨by rw [I];rfl,rfl⟩
       have P:(x.toList == (⟨#[83,85,66,83,89,83,84,69,77]⟩:ByteArray).toList)=true:=by rw [show (⟨#[83,85,66,83,89,83,84,69,77]⟩:ByteArray).toList=[83,85,66,83,89,83,84,69,77] by decide +kernel];exact c6
       have I:baseK x=true:=by rw [H.out];simp only [c0,c1,c2,c3,c4,c5,c6,Bool.or_true,Bool.true_or,Bool.or_false,Bool.false_or]
       clear H;go_wp2;go_ret;exact ⟨by rw [I];rfl,rfl⟩
      have O:(x.toList == (⟨#[78,85,77,66,69,82]⟩:ByteArray).toList)=true:=by rw [show (⟨#[78,85,77,66,69,82]⟩:ByteArray).toList=[78,85,77,66,69,82] by decide +kernel];exact c5
      have I:baseK x=true:=by rw [H.out];simp only [c0,c1,c2,c3,c4,c5,Bool.or_true,Bool.true_or,Bool.or_false,Bool.false_or]
      clear H;go_wp2;go_ret;exact ⟨by rw [I];rfl,rfl⟩
     have N:(x.toList == (⟨#[77,79,68,65,76,73,65,83]⟩:ByteArray).toList)=true:=by rw [show (⟨#[77,79,68,65,76,73,65,83]⟩:ByteArray).toList=[77,79,68,65,76,73,65,83] by decide +kernel];exact c4
     have I:baseK x=true:=by rw [H.out];simp only [c0,c1,c2,c3,c4,Bool.or_true,Bool.true_or,Bool.or_false,Bool.false_or]
     clear H;go_wp2;go_ret;exact ⟨by rw [I];rfl,rfl⟩
    have M:(x.toList == (⟨#[73,78,84,69,82,70,65,67,69]⟩:ByteArray).toList)=true:=by rw [show (⟨#[73,78,84,69,82,70,65,67,69]⟩:ByteArray).toList=[73,78,84,69,82,70,65,67,69] by decide +kernel];exact c3
    have I:baseK x=true:=by rw [H.out];simp only [c0,c1,c2,c3,Bool.or_true,Bool.true_or,Bool.or_false,Bool.false_or]
    clear H;go_wp2;go_ret;exact ⟨by rw [I];rfl,rfl⟩
   have L:(x.toList == (⟨#[68,82,73,86,69,82]⟩:ByteArray).toList)=true:=by rw [show (⟨#[68,82,73,86,69,82]⟩:ByteArray).toList=[68,82,73,86,69,82] by decide +kernel];exact c2
   have I:baseK x=true:=by rw [H.out];simp only [c0,c1,c2,Bool.or_true,Bool.true_or,Bool.or_false,Bool.false_or]
   clear H;go_wp2;go_ret;exact ⟨by rw [I];rfl,rfl⟩
  have K:(x.toList == (⟨#[68,69,86,80,65,84,72]⟩:ByteArray).toList)=true:=by rw [show (⟨#[68,69,86,80,65,84,72]⟩:ByteArray).toList=[68,69,86,80,65,84,72] by decide +kernel];exact c1
  have I:baseK x=true:=by rw [H.out];simp only [c0,c1,Bool.or_true,Bool.true_or,Bool.or_false,Bool.false_or]
  clear H;go_wp2;go_ret;exact ⟨by rw [I];rfl,rfl⟩
 have J:(x.toList == (⟨#[68,69,86,78,65,77,69]⟩:ByteArray).toList)=true:=by rw [show (⟨#[68,69,86,78,65,77,69]⟩:ByteArray).toList=[68,69,86,78,65,77,69] by decide +kernel];exact c0
 have I:baseK x=true:=by rw [H.out];simp only [c0,Bool.or_true,Bool.true_or,Bool.or_false,Bool.false_or]
 clear H;go_wp2;go_ret;exact ⟨by rw [I];rfl,rfl⟩
end Go.Cold
