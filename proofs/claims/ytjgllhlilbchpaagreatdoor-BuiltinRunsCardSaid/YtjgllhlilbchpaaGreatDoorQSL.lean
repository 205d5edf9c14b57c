/-
  The plain side of layer 7,on: what the parser reads of the text of a valid content. No program is named here.
-/
import Derived.Test.YtjgllhlilbchpaaGreatDoorQSI
import Derived.Test.YtjgllhlilbchpaaGreatDoorQSC
import Derived.Test.YtjgllhlilbchpaaGreatDoorQA
import Derived.Test.YtjgllhlilbchpaaGreatDoorQG
set_option linter.unusedSimpArgs false
set_option linter.unusedVariables false
namespace Go.Cold
open Go Go.RowKit
def restL (s:ByteArray) (k:Nat):List UInt8:=s.data.toList.drop k
theorem rest_ext (s:ByteArray) (k:Nat):(s.extract k s.size).data.toList=restL s k:=by
 rw [Lib.extract_data];unfold restL;rw [List.take_of_length_le];rw [List.length_drop,ba_size];omega
theorem rest_add {s:ByteArray} {k:Nat} {p r:List UInt8} (h:restL s k=p ++ r):restL s (k+p.length)=r:=by
 unfold restL at h ⊢;rw [← List.drop_drop,h,List.drop_left]
theorem rest_len {s:ByteArray} {k:Nat} {p r:List UInt8} (hk:k≤s.size) (h:restL s k=p ++ r):k+p.length≤s.size:=by
 have:=congrArg List.length h;unfold restL at this;rw [List.length_drop,List.length_append,ba_size] at this;omega
theorem index_none (cs:List UInt8):∀ p:List UInt8,(∀ b ∈ p,cs.contains b=false)→Lib.indexAny p cs = -1
 | [],_=>rfl
 | b :: p,h=>by
  rw [Lib.indexAny,if_neg (by rw [h b List.mem_cons_self];simp),index_none cs p (fun x hx=>h x (List.mem_cons_of_mem _ hx))];rfl
theorem index_at (cs:List UInt8) (b:UInt8) (r:List UInt8) (hb:cs.contains b=true):∀ p:List UInt8,(∀ b ∈ p,cs.contains b=false)→Lib.indexAny (p ++ b :: r) cs=p.length
 | [],_=>by rw [List.nil_append,Lib.indexAny,if_pos hb];rfl
 | x :: p,h=>by
  have ih:=index_at cs b r hb p (fun x hx=>h x (List.mem_cons_of_mem _ hx));rw [List.cons_append,Lib.indexAny,if_neg (by rw [h x List.mem_cons_self];simp),ih,if_neg (by simp <;> omega)];rw [List.length_cons];omega
def EndsIn (ends:ByteArray) (r:List UInt8):Prop:=r=[]∨∃ b r',r=b :: r'∧ends.data.toList.contains b=true
theorem until_at {s ends:ByteArray} {k:Nat} {p r:List UInt8} (h:restL s k=p ++ r) (hp:∀ b ∈ p,ends.data.toList.contains b=false) (hr:EndsIn ends r):untilN (s.extract k s.size) ends=p.length:=by
 unfold untilN;rw [rest_ext,h];rcases hr with rfl | ⟨b,r',rfl,hb⟩
 · rw [List.append_nil,index_none _ _ hp,if_pos (by decide),← ba_size,rest_ext,h,List.append_nil]
 · rw [index_at _ _ _ hb _ hp,if_neg (by omega),Int.toNat_natCast]
theorem piece_at {s ends:ByteArray} {k:Nat} {p r:List UInt8} (h:restL s k=p ++ r) (hp:∀ b ∈ p,ends.data.toList.contains b=false) (hr:EndsIn ends r) :
  pieceP s ends k=⟨p.toArray⟩∧afterP s ends k=k+p.length:=by
 have hu:=until_at h hp hr;refine ⟨?_,by unfold afterP;rw [hu]⟩;unfold pieceP;rw [hu];apply ba_ext
 rw [Lib.extract_data,rest_ext,h];simp
theorem want_at {s t:ByteArray} {k:Nat} {r:List UInt8} (h:restL s k=t.data.toList ++ r):wantP s t k=some (k+t.size):=by
 unfold wantP skipB Lib.hasPrefix;rw [rest_ext,h,if_pos (by rw [List.isPrefixOf_iff_prefix];exact List.prefix_append _ _)]
theorem skip_at {s t:ByteArray} {k:Nat} {r:List UInt8} (h:restL s k=t.data.toList ++ r):skipB s k t=true:=by
 unfold skipB Lib.hasPrefix;rw [rest_ext,h,List.isPrefixOf_iff_prefix];exact List.prefix_append _ _
theorem skip_no {s:ByteArray} {k:Nat} {b c:UInt8} {r:List UInt8} (h:restL s k=b :: r) (hne:c≠b):skipB s k ⟨#[c]⟩=false:=by
 unfold skipB Lib.hasPrefix;rw [rest_ext,h];simp [List.isPrefixOf,hne]
theorem numP_T:∀ n:Fin 17,numP (numT n.val)=some (n.val:Int):=by decide +kernel
theorem numT_no:∀ n:Fin 17,∀ b ∈ (numT n.val).data.toList,slashE.data.toList.contains b=false:=by decide +kernel
theorem num_at {s:ByteArray} {k n:Nat} {r:List UInt8} (hn:n≤16) (h:restL s k=(numT n).data.toList ++ r) (hr:EndsIn slashE r):numAt s k=some ((n:Int),k+(numT n).size):=by
 obtain ⟨h1,h2⟩:=piece_at h (numT_no ⟨n,by omega⟩) hr;have hd:numAt s k=(numP (pieceP s slashE k)).map fun n=>(n,afterP s slashE k):=rfl
 rw [hd,h1,h2];have:(⟨(numT n).data.toList.toArray⟩:ByteArray)=numT n:=by apply ba_ext;simp
 rw [this,numP_T ⟨n,by omega⟩,ba_size];rfl
end Go.Cold
namespace Go.Cold
open Go Go.RowKit
def colE:ByteArray:=⟨#[58,44,41]⟩
def idE:ByteArray:=⟨#[58,40,44,41]⟩
def endE:ByteArray:=⟨#[44,41]⟩
theorem id_byte:∀ n:Fin 256,idL.contains (UInt8.ofNat n.val)=true→colE.data.toList.contains (UInt8.ofNat n.val)=false∧idE.data.toList.contains (UInt8.ofNat n.val)=false∧endE.data.toList.contains (UInt8.ofNat n.val)=false:=by decide +kernel
theorem id_no {i:ByteArray} (h:idB i=true):∀ b ∈ i.data.toList,idE.data.toList.contains b=false∧endE.data.toList.contains b=false:=by
 intro b hb;unfold idB inB at h;simp only [Bool.and_eq_true,List.all_eq_true] at h;have h1:=h.2.2 b hb;have h2:=id_byte ⟨b.toNat,UInt8.toNat_lt b⟩;have h3:UInt8.ofNat b.toNat=b:=by simp
 simp only [h3] at h2;exact (h2 h1).2
def EndR (r:List UInt8):Prop:=r=[]∨∃ b r',r=b :: r'∧(b=44∨b=41)
theorem EndR.ends {r:List UInt8} (h:EndR r):EndsIn colE r∧EndsIn endE r:=by
 rcases h with rfl | ⟨b,r',rfl,rfl | rfl⟩
 · exact ⟨.inl rfl,.inl rfl⟩
 · exact ⟨.inr ⟨_,_,rfl,by decide⟩,.inr ⟨_,_,rfl,by decide⟩⟩
 · exact ⟨.inr ⟨_,_,rfl,by decide⟩,.inr ⟨_,_,rfl,by decide⟩⟩
theorem comma_two (x y:ByteArray) (ys:List ByteArray):(commaB (x :: y :: ys)).data.toList=x.data.toList ++ 44 :: (commaB (y :: ys)).data.toList:=by
 unfold commaB;simp only [List.map_cons,Lib.join_cons];simp [Lib.joinTail]
theorem comma_one (x:ByteArray):(commaB [x]).data.toList=x.data.toList:=by
 unfold commaB;simp [Lib.join_one]
theorem inner_text (s:ByteArray):∀ (xs:List Cont),xs≠[]→(∀ x ∈ xs,∀ (k f:Nat) (r:List UInt8),restL s k=(textC x).data.toList ++ r→EndR r→k≤s.size→s.size<f+k→contP s f k=some (x,k+(textC x).size))→
  ∀ (k f:Nat) (r:List UInt8) (acc:List Cont),restL s k=(commaB (textL xs)).data.toList ++ 41 :: r→k≤s.size→s.size+1<f+k→innerP s f k acc=some (acc ++ xs,k+(commaB (textL xs)).size+1)
 | [],h,_=>absurd rfl h
 | [x],_,hx=>fun k f r acc h hk hf=>by
  obtain ⟨f,rfl⟩:∃ g,f=g+1:=⟨f - 1,by omega⟩;have hc:(commaB (textL [x])).data.toList=(textC x).data.toList:=by rw [textL,textL,comma_one]
  rw [hc] at h;have h1:=hx x (by simp) k f _ h (.inr ⟨_,_,rfl,.inr rfl⟩) hk (by omega);have h2:=rest_add h;rw [ba_size] at h2;rw [innerP,h1];simp only [Option.bind_some];rw [if_pos (skip_at (t:=⟨#[41]⟩) (by rw [h2];rfl))];have h3:(commaB (textL [x])).size=(textC x).size:=by rw [← ba_size,hc,ba_size]
  rw [h3]
 | x :: y :: ys,_,hx=>fun k f r acc h hk hf=>by
  obtain ⟨f,rfl⟩:∃ g,f=g+1:=⟨f - 1,by omega⟩;have hc:(commaB (textL (x :: y :: ys))).data.toList=(textC x).data.toList ++ 44 :: (commaB (textL (y :: ys))).data.toList:=by
   rw [textL,textL,comma_two,← textL]
  rw [hc,List.append_assoc,List.cons_append] at h;have h1:=hx x (by simp) k f _ h (.inr ⟨_,_,rfl,.inl rfl⟩) hk (by omega);have h2:=rest_add h;have hl:=rest_len hk h;rw [ba_size] at h2 hl;have h4:restL s (k+(textC x).size+1)=(commaB (textL (y :: ys))).data.toList ++ 41 :: r:=rest_add (p:=[44]) (by rw [h2];rfl);have hl2:k+(textC x).size+1≤s.size:=rest_len (p:=[44]) hl (by rw [h2];rfl);have ih:=inner_text s (y :: ys) (by simp) (fun z hz=>hx z (by simp only [List.mem_cons] at hz ⊢;exact .inr hz)) (k+(textC x).size+1) f r (acc ++ [x]) h4 hl2 (by omega);rw [innerP,h1];simp only [Option.bind_some];rw [if_neg (by rw [skip_no h2 (by decide)];simp),want_at (t:=⟨#[44]⟩) (by rw [h2];rfl)];simp only [Option.bind_some];have h5:(⟨#[44]⟩:ByteArray).size=1:=rfl;rw [h5,ih];have h3:(commaB (textL (x :: y :: ys))).size=(textC x).size+1+(commaB (textL (y :: ys))).size:=by
   rw [← ba_size,hc,List.length_append,List.length_cons,ba_size,ba_size];omega
  rw [h3];simp only [List.append_assoc,List.cons_append,List.nil_append,Option.some.injEq,Prod.mk.injEq,true_and];omega
end Go.Cold
namespace Go.Cold
open Go Go.RowKit Go.Proofs.YtjgllhlilbchpaaGreatDoor
theorem list_ba (i:ByteArray):(⟨i.data.toList.toArray⟩:ByteArray)=i:=by apply ba_ext;simp
theorem empty_lit:ByteArray.empty=(⟨#[]⟩:ByteArray):=by apply ba_ext;decide +kernel
def ReadsAs (s:ByteArray) (c:Cont):Prop:=∀ (k f:Nat) (r:List UInt8),restL s k=(textC c).data.toList ++ r→EndR r→k≤s.size→s.size<f+k→contP s f k=some (c,k+(textC c).size)
set_option maxHeartbeats 4000000 in
theorem reads_all (s:ByteArray) (N:Nat):∀ c:Cont,szC c<N→AllOk c→ReadsAs s c:=by
 induction N with
 | zero=>intro c h;omega
 | succ N ih =>
  intro c hsz hall k f r h hr hk hf;obtain ⟨kk,i,l,sl,t,e,xs⟩:=c;obtain ⟨f,rfl⟩:∃ g,f=g+1:=⟨f - 1,by omega⟩;obtain ⟨hown,hin⟩:=AllOk_mk.1 hall;obtain ⟨hkind,-,-,hs0,ht0,he0⟩:=own_nums hown;obtain ⟨sl,rfl⟩:=Int.eq_ofNat_of_zero_le hs0.1;obtain ⟨t,rfl⟩:=Int.eq_ofNat_of_zero_le ht0.1;obtain ⟨e,rfl⟩:=Int.eq_ofNat_of_zero_le he0.1;have hix:∀ x ∈ xs,ReadsAs s x:=fun x hx=>ih x (by have:=szC_mem (k:=kk) (i:=i) (l:=l) (s:=sl) (t:=t) (e:=e) hx;omega) (hin x hx)
  have hsl:sl≤16:=by omega
  have htl:t≤16:=by omega
  have hel:e≤16:=by omega
  clear hsz hs0 ht0 he0 ih hin hall;rcases hkind with rfl | rfl | rfl | rfl | rfl | rfl
  ·
   have h1:textC (.mk 0 i l sl t e xs)=⟨#[]⟩:=by rw [textC];simp
   rw [h1] at h ⊢;have h2:restL s k=[] ++ r:=h;obtain ⟨p1,p2⟩:=piece_at h2 (fun b hb=>by cases hb) hr.ends.1;rw [contP_none p1,show (⟨#[58,44,41]⟩:ByteArray)=colE from rfl,p2];unfold ownB noneB at hown;simp [empty_iff] at hown
   obtain ⟨q1,q2,⟨q3,q4,q5⟩,q6⟩:=hown;subst q1 q2 q3 q4 q5 q6;rw [empty_lit];rfl
  ·
   skip
   unfold ownB noneB slots2 c7withinB at hown;simp [empty_iff] at hown
   obtain ⟨qi,ql,⟨q3,q4,q5⟩,q6⟩:=hown;subst q3 q4 q5 q6;have h0:restL s k=([102,115] ++ ([58] ++ (i.data.toList ++ ([58] ++ (l.data.toList ++ r))))):=by rw [h,textC];simp
   have hl0:∀ b ∈ l.data.toList,endE.data.toList.contains b=false:=by
    intro b hb;rcases ql with q2 | q2
    · rw [q2,empty_lit] at hb;simp at hb
    · exact (id_no q2 b hb).2
   have l0:k≤s.size:=hk;obtain ⟨a1,b1⟩:=piece_at (ends:=colE) h0 (by decide) (.inr ⟨_,_,rfl,by decide⟩);have b1:afterP s colE k=(k+2):=b1;have r1:restL s (k+2)=([58] ++ (i.data.toList ++ ([58] ++ (l.data.toList ++ r)))):=rest_add h0;have l1:(k+2)≤s.size:=rest_len l0 h0;have w2:wantP s ⟨#[58]⟩ (k+2)=some ((k+2)+1):=want_at (t:=⟨#[58]⟩) r1;have r2:restL s ((k+2)+1)=(i.data.toList ++ ([58] ++ (l.data.toList ++ r))):=rest_add (p:=[58]) r1;have l2:((k+2)+1)≤s.size:=rest_len (p:=[58]) l1 r1;obtain ⟨a3,b3⟩:=piece_at (ends:=idE) r2 (fun b hb=>(id_no qi b hb).1) (.inr ⟨_,_,rfl,by decide⟩);rw [list_ba] at a3;rw [ba_size] at b3;have r3:restL s (((k+2)+1)+i.size)=([58] ++ (l.data.toList ++ r)):=by have hq:=rest_add r2;rwa [ba_size] at hq
   have l3:(((k+2)+1)+i.size)≤s.size:=by have hq:=rest_len l2 r2;rwa [ba_size] at hq
   have w4:wantP s ⟨#[58]⟩ (((k+2)+1)+i.size)=some ((((k+2)+1)+i.size)+1):=want_at (t:=⟨#[58]⟩) r3;have r4:restL s ((((k+2)+1)+i.size)+1)=(l.data.toList ++ r):=rest_add (p:=[58]) r3;have l4:((((k+2)+1)+i.size)+1)≤s.size:=rest_len (p:=[58]) l3 r3;obtain ⟨a5,b5⟩:=piece_at (ends:=endE) r4 hl0 hr.ends.2;rw [list_ba] at a5;rw [ba_size] at b5;have r5:restL s (((((k+2)+1)+i.size)+1)+l.size)=r:=by have hq:=rest_add r4;rwa [ba_size] at hq
   have l5:(((((k+2)+1)+i.size)+1)+l.size)≤s.size:=by have hq:=rest_len l4 r4;rwa [ba_size] at hq
   rw [contP_fs a1];simp only [show (⟨#[58,44,41]⟩:ByteArray)=colE from rfl,show (⟨#[58,40,44,41]⟩:ByteArray)=idE from rfl,show (⟨#[44,41]⟩:ByteArray)=endE from rfl];rw [b1];rw [w2];simp only [Option.bind_some];rw [a3,b3];rw [w4];simp only [Option.bind_some];rw [a5,b5];rw [textC];simp [ByteArray.size_append,lit_size]
   try omega
  ·
   skip
   unfold ownB noneB slots2 c7withinB at hown;simp [empty_iff] at hown
   obtain ⟨qi,ql,-,-,qn⟩:=hown;have hne:xs≠[]:=by rintro rfl;simp at qn
   subst ql;obtain ⟨J,hJ⟩:∃ J,commaB (textL xs)=J:=⟨_,rfl⟩;have h0:restL s k=([114,97,105,100] ++ ([58] ++ (i.data.toList ++ ([58] ++ ((numT sl).data.toList ++ ([47] ++ ((numT t).data.toList ++ ([47] ++ ((numT e).data.toList ++ ([40] ++ (J.data.toList ++ (41 :: r)))))))))))):=by rw [h,textC];simp only [hJ];simp
   have l0:k≤s.size:=hk;obtain ⟨a1,b1⟩:=piece_at (ends:=colE) h0 (by decide) (.inr ⟨_,_,rfl,by decide⟩);have b1:afterP s colE k=(k+4):=b1;have r1:restL s (k+4)=([58] ++ (i.data.toList ++ ([58] ++ ((numT sl).data.toList ++ ([47] ++ ((numT t).data.toList ++ ([47] ++ ((numT e).data.toList ++ ([40] ++ (J.data.toList ++ (41 :: r))))))))))):=rest_add h0;have l1:(k+4)≤s.size:=rest_len l0 h0;have w2:wantP s ⟨#[58]⟩ (k+4)=some ((k+4)+1):=want_at (t:=⟨#[58]⟩) r1;have r2:restL s ((k+4)+1)=(i.data.toList ++ ([58] ++ ((numT sl).data.toList ++ ([47] ++ ((numT t).data.toList ++ ([47] ++ ((numT e).data.toList ++ ([40] ++ (J.data.toList ++ (41 :: r)))))))))):=rest_add (p:=[58]) r1;have l2:((k+4)+1)≤s.size:=rest_len (p:=[58]) l1 r1;obtain ⟨a3,b3⟩:=piece_at (ends:=idE) r2 (fun b hb=>(id_no qi b hb).1) (.inr ⟨_,_,rfl,by decide⟩);rw [list_ba] at a3;rw [ba_size] at b3;have r3:restL s (((k+4)+1)+i.size)=([58] ++ ((numT sl).data.toList ++ ([47] ++ ((numT t).data.toList ++ ([47] ++ ((numT e).data.toList ++ ([40] ++ (J.data.toList ++ (41 :: r))))))))):=by have hq:=rest_add r2;rwa [ba_size] at hq
   have l3:(((k+4)+1)+i.size)≤s.size:=by have hq:=rest_len l2 r2;rwa [ba_size] at hq
   have w4:wantP s ⟨#[58]⟩ (((k+4)+1)+i.size)=some ((((k+4)+1)+i.size)+1):=want_at (t:=⟨#[58]⟩) r3;have r4:restL s ((((k+4)+1)+i.size)+1)=((numT sl).data.toList ++ ([47] ++ ((numT t).data.toList ++ ([47] ++ ((numT e).data.toList ++ ([40] ++ (J.data.toList ++ (41 :: r)))))))):=rest_add (p:=[58]) r3;have l4:((((k+4)+1)+i.size)+1)≤s.size:=rest_len (p:=[58]) l3 r3;have n5:numAt s ((((k+4)+1)+i.size)+1)=some ((sl:Int),(((((k+4)+1)+i.size)+1)+(numT sl).size)):=num_at hsl r4 (.inr ⟨_,_,rfl,by decide⟩);have r5:restL s (((((k+4)+1)+i.size)+1)+(numT sl).size)=([47] ++ ((numT t).data.toList ++ ([47] ++ ((numT e).data.toList ++ ([40] ++ (J.data.toList ++ (41 :: r))))))):=by have hq:=rest_add r4;rwa [ba_size] at hq
   have l5:(((((k+4)+1)+i.size)+1)+(numT sl).size)≤s.size:=by have hq:=rest_len l4 r4;rwa [ba_size] at hq
   have w6:wantP s ⟨#[47]⟩ (((((k+4)+1)+i.size)+1)+(numT sl).size)=some ((((((k+4)+1)+i.size)+1)+(numT sl).size)+1):=want_at (t:=⟨#[47]⟩) r5;have r6:restL s ((((((k+4)+1)+i.size)+1)+(numT sl).size)+1)=((numT t).data.toList ++ ([47] ++ ((numT e).data.toList ++ ([40] ++ (J.data.toList ++ (41 :: r)))))):=rest_add (p:=[47]) r5;have l6:((((((k+4)+1)+i.size)+1)+(numT sl).size)+1)≤s.size:=rest_len (p:=[47]) l5 r5;have n7:numAt s ((((((k+4)+1)+i.size)+1)+(numT sl).size)+1)=some ((t:Int),(((((((k+4)+1)+i.size)+1)+(numT sl).size)+1)+(numT t).size)):=num_at htl r6 (.inr ⟨_,_,rfl,by decide⟩);have r7:restL s (((((((k+4)+1)+i.size)+1)+(numT sl).size)+1)+(numT t).size)=([47] ++ ((numT e).data.toList ++ ([40] ++ (J.data.toList ++ (41 :: r))))):=by have hq:=rest_add r6;rwa [ba_size] at hq
   have l7:(((((((k+4)+1)+i.size)+1)+(numT sl).size)+1)+(numT t).size)≤s.size:=by have hq:=rest_len l6 r6;rwa [ba_size] at hq
   have w8:wantP s ⟨#[47]⟩ (((((((k+4)+1)+i.size)+1)+(numT sl).size)+1)+(numT t).size)=some ((((((((k+4)+1)+i.size)+1)+(numT sl).size)+1)+(numT t).size)+1):=want_at (t:=⟨#[47]⟩) r7;have r8:restL s ((((((((k+4)+1)+i.size)+1)+(numT sl).size)+1)+(numT t).size)+1)=((numT e).data.toList ++ ([40] ++ (J.data.toList ++ (41 :: r)))):=rest_add (p:=[47]) r7;have l8:((((((((k+4)+1)+i.size)+1)+(numT sl).size)+1)+(numT t).size)+1)≤s.size:=rest_len (p:=[47]) l7 r7;have n9:numAt s ((((((((k+4)+1)+i.size)+1)+(numT sl).size)+1)+(numT t).size)+1)=some ((e:Int),(((((((((k+4)+1)+i.size)+1)+(numT sl).size)+1)+(numT t).size)+1)+(numT e).size)):=num_at hel r8 (.inr ⟨_,_,rfl,by decide⟩);have r9:restL s (((((((((k+4)+1)+i.size)+1)+(numT sl).size)+1)+(numT t).size)+1)+(numT e).size)=([40] ++ (J.data.toList ++ (41 :: r))):=by have hq:=rest_add r8;rwa [ba_size] at hq
   have l9:(((((((((k+4)+1)+i.size)+1)+(numT sl).size)+1)+(numT t).size)+1)+(numT e).size)≤s.size:=by have hq:=rest_len l8 r8;rwa [ba_size] at hq
   have w10:wantP s ⟨#[40]⟩ (((((((((k+4)+1)+i.size)+1)+(numT sl).size)+1)+(numT t).size)+1)+(numT e).size)=some ((((((((((k+4)+1)+i.size)+1)+(numT sl).size)+1)+(numT t).size)+1)+(numT e).size)+1):=want_at (t:=⟨#[40]⟩) r9;have r10:restL s ((((((((((k+4)+1)+i.size)+1)+(numT sl).size)+1)+(numT t).size)+1)+(numT e).size)+1)=(J.data.toList ++ (41 :: r)):=rest_add (p:=[40]) r9;have l10:((((((((((k+4)+1)+i.size)+1)+(numT sl).size)+1)+(numT t).size)+1)+(numT e).size)+1)≤s.size:=rest_len (p:=[40]) l9 r9;have j11:=inner_text s xs hne hix ((((((((((k+4)+1)+i.size)+1)+(numT sl).size)+1)+(numT t).size)+1)+(numT e).size)+1) f r [] (by rw [hJ];exact r10) l10 (by omega);rw [hJ,List.nil_append] at j11;rw [contP_raid a1];simp only [show (⟨#[58,44,41]⟩:ByteArray)=colE from rfl,show (⟨#[58,40,44,41]⟩:ByteArray)=idE from rfl];rw [b1];rw [w2];simp only [Option.bind_some];rw [a3,b3];rw [w4];simp only [Option.bind_some];rw [n5];simp only [Option.bind_some];rw [w6];simp only [Option.bind_some];rw [n7];simp only [Option.bind_some];rw [w8];simp only [Option.bind_some];rw [n9];simp only [Option.bind_some];rw [w10];simp only [Option.bind_some];rw [j11];simp only [Option.map_some];rw [textC];simp only [hJ,empty_lit];simp [ByteArray.size_append,lit_size]
   try omega
  ·
   skip
   unfold ownB noneB slots2 c7withinB at hown;simp [empty_iff] at hown
   obtain ⟨qi,ql,⟨q3,q4,q5⟩,qn⟩:=hown;have hne:xs≠[]:=by rintro rfl;simp at qn
   subst q3 q4 q5;subst ql;obtain ⟨J,hJ⟩:∃ J,commaB (textL xs)=J:=⟨_,rfl⟩;have h0:restL s k=([99,114,121,112,116] ++ ([58] ++ (i.data.toList ++ ([40] ++ (J.data.toList ++ (41 :: r)))))):=by rw [h,textC];simp only [hJ];simp
   have l0:k≤s.size:=hk;obtain ⟨a1,b1⟩:=piece_at (ends:=colE) h0 (by decide) (.inr ⟨_,_,rfl,by decide⟩);have b1:afterP s colE k=(k+5):=b1;have r1:restL s (k+5)=([58] ++ (i.data.toList ++ ([40] ++ (J.data.toList ++ (41 :: r))))):=rest_add h0;have l1:(k+5)≤s.size:=rest_len l0 h0;have w2:wantP s ⟨#[58]⟩ (k+5)=some ((k+5)+1):=want_at (t:=⟨#[58]⟩) r1;have r2:restL s ((k+5)+1)=(i.data.toList ++ ([40] ++ (J.data.toList ++ (41 :: r)))):=rest_add (p:=[58]) r1;have l2:((k+5)+1)≤s.size:=rest_len (p:=[58]) l1 r1;obtain ⟨a3,b3⟩:=piece_at (ends:=idE) r2 (fun b hb=>(id_no qi b hb).1) (.inr ⟨_,_,rfl,by decide⟩);rw [list_ba] at a3;rw [ba_size] at b3;have r3:restL s (((k+5)+1)+i.size)=([40] ++ (J.data.toList ++ (41 :: r))):=by have hq:=rest_add r2;rwa [ba_size] at hq
   have l3:(((k+5)+1)+i.size)≤s.size:=by have hq:=rest_len l2 r2;rwa [ba_size] at hq
   have w4:wantP s ⟨#[40]⟩ (((k+5)+1)+i.size)=some ((((k+5)+1)+i.size)+1):=want_at (t:=⟨#[40]⟩) r3;have r4:restL s ((((k+5)+1)+i.size)+1)=(J.data.toList ++ (41 :: r)):=rest_add (p:=[40]) r3;have l4:((((k+5)+1)+i.size)+1)≤s.size:=rest_len (p:=[40]) l3 r3;have j5:=inner_text s xs hne hix ((((k+5)+1)+i.size)+1) f r [] (by rw [hJ];exact r4) l4 (by omega);rw [hJ,List.nil_append] at j5;rw [contP_crypt a1];simp only [show (⟨#[58,44,41]⟩:ByteArray)=colE from rfl,show (⟨#[58,40,44,41]⟩:ByteArray)=idE from rfl];rw [b1];rw [w2];simp only [Option.bind_some];rw [a3,b3];rw [w4];simp only [Option.bind_some];rw [j5];simp only [Option.map_some];rw [textC];simp only [hJ,empty_lit];simp [ByteArray.size_append,lit_size]
   try omega
  ·
   skip
   unfold ownB noneB slots2 c7withinB at hown;simp [empty_iff] at hown
   obtain ⟨qi,ql,-,q5,qn⟩:=hown;have hne:xs≠[]:=by rintro rfl;simp at qn
   subst q5;subst ql;obtain ⟨J,hJ⟩:∃ J,commaB (textL xs)=J:=⟨_,rfl⟩;have h0:restL s k=([112,118] ++ ([58] ++ (i.data.toList ++ ([58] ++ ((numT sl).data.toList ++ ([47] ++ ((numT t).data.toList ++ ([40] ++ (J.data.toList ++ (41 :: r)))))))))):=by rw [h,textC];simp only [hJ];simp
   have l0:k≤s.size:=hk;obtain ⟨a1,b1⟩:=piece_at (ends:=colE) h0 (by decide) (.inr ⟨_,_,rfl,by decide⟩);have b1:afterP s colE k=(k+2):=b1;have r1:restL s (k+2)=([58] ++ (i.data.toList ++ ([58] ++ ((numT sl).data.toList ++ ([47] ++ ((numT t).data.toList ++ ([40] ++ (J.data.toList ++ (41 :: r))))))))):=rest_add h0;have l1:(k+2)≤s.size:=rest_len l0 h0;have w2:wantP s ⟨#[58]⟩ (k+2)=some ((k+2)+1):=want_at (t:=⟨#[58]⟩) r1;have r2:restL s ((k+2)+1)=(i.data.toList ++ ([58] ++ ((numT sl).data.toList ++ ([47] ++ ((numT t).data.toList ++ ([40] ++ (J.data.toList ++ (41 :: r)))))))):=rest_add (p:=[58]) r1;have l2:((k+2)+1)≤s.size:=rest_len (p:=[58]) l1 r1;obtain ⟨a3,b3⟩:=piece_at (ends:=idE) r2 (fun b hb=>(id_no qi b hb).1) (.inr ⟨_,_,rfl,by decide⟩);rw [list_ba] at a3;rw [ba_size] at b3;have r3:restL s (((k+2)+1)+i.size)=([58] ++ ((numT sl).data.toList ++ ([47] ++ ((numT t).data.toList ++ ([40] ++ (J.data.toList ++ (41 :: r))))))):=by have hq:=rest_add r2;rwa [ba_size] at hq
   have l3:(((k+2)+1)+i.size)≤s.size:=by have hq:=rest_len l2 r2;rwa [ba_size] at hq
   have w4:wantP s ⟨#[58]⟩ (((k+2)+1)+i.size)=some ((((k+2)+1)+i.size)+1):=want_at (t:=⟨#[58]⟩) r3;have r4:restL s ((((k+2)+1)+i.size)+1)=((numT sl).data.toList ++ ([47] ++ ((numT t).data.toList ++ ([40] ++ (J.data.toList ++ (41 :: r)))))):=rest_add (p:=[58]) r3;have l4:((((k+2)+1)+i.size)+1)≤s.size:=rest_len (p:=[58]) l3 r3;have n5:numAt s ((((k+2)+1)+i.size)+1)=some ((sl:Int),(((((k+2)+1)+i.size)+1)+(numT sl).size)):=num_at hsl r4 (.inr ⟨_,_,rfl,by decide⟩);have r5:restL s (((((k+2)+1)+i.size)+1)+(numT sl).size)=([47] ++ ((numT t).data.toList ++ ([40] ++ (J.data.toList ++ (41 :: r))))):=by have hq:=rest_add r4;rwa [ba_size] at hq
   have l5:(((((k+2)+1)+i.size)+1)+(numT sl).size)≤s.size:=by have hq:=rest_len l4 r4;rwa [ba_size] at hq
   have w6:wantP s ⟨#[47]⟩ (((((k+2)+1)+i.size)+1)+(numT sl).size)=some ((((((k+2)+1)+i.size)+1)+(numT sl).size)+1):=want_at (t:=⟨#[47]⟩) r5;have r6:restL s ((((((k+2)+1)+i.size)+1)+(numT sl).size)+1)=((numT t).data.toList ++ ([40] ++ (J.data.toList ++ (41 :: r)))):=rest_add (p:=[47]) r5;have l6:((((((k+2)+1)+i.size)+1)+(numT sl).size)+1)≤s.size:=rest_len (p:=[47]) l5 r5;have n7:numAt s ((((((k+2)+1)+i.size)+1)+(numT sl).size)+1)=some ((t:Int),(((((((k+2)+1)+i.size)+1)+(numT sl).size)+1)+(numT t).size)):=num_at htl r6 (.inr ⟨_,_,rfl,by decide⟩);have r7:restL s (((((((k+2)+1)+i.size)+1)+(numT sl).size)+1)+(numT t).size)=([40] ++ (J.data.toList ++ (41 :: r))):=by have hq:=rest_add r6;rwa [ba_size] at hq
   have l7:(((((((k+2)+1)+i.size)+1)+(numT sl).size)+1)+(numT t).size)≤s.size:=by have hq:=rest_len l6 r6;rwa [ba_size] at hq
   have w8:wantP s ⟨#[40]⟩ (((((((k+2)+1)+i.size)+1)+(numT sl).size)+1)+(numT t).size)=some ((((((((k+2)+1)+i.size)+1)+(numT sl).size)+1)+(numT t).size)+1):=want_at (t:=⟨#[40]⟩) r7;have r8:restL s ((((((((k+2)+1)+i.size)+1)+(numT sl).size)+1)+(numT t).size)+1)=(J.data.toList ++ (41 :: r)):=rest_add (p:=[40]) r7;have l8:((((((((k+2)+1)+i.size)+1)+(numT sl).size)+1)+(numT t).size)+1)≤s.size:=rest_len (p:=[40]) l7 r7;have j9:=inner_text s xs hne hix ((((((((k+2)+1)+i.size)+1)+(numT sl).size)+1)+(numT t).size)+1) f r [] (by rw [hJ];exact r8) l8 (by omega);rw [hJ,List.nil_append] at j9;rw [contP_pv a1];simp only [show (⟨#[58,44,41]⟩:ByteArray)=colE from rfl,show (⟨#[58,40,44,41]⟩:ByteArray)=idE from rfl];rw [b1];rw [w2];simp only [Option.bind_some];rw [a3,b3];rw [w4];simp only [Option.bind_some];rw [n5];simp only [Option.bind_some];rw [w6];simp only [Option.bind_some];rw [n7];simp only [Option.bind_some];rw [w8];simp only [Option.bind_some];rw [j9];simp only [Option.map_some];rw [textC];simp only [hJ,empty_lit];simp [ByteArray.size_append,lit_size]
   try omega
  ·
   skip
   unfold ownB noneB slots2 c7withinB at hown;simp [empty_iff] at hown
   obtain ⟨qi,ql,⟨q3,q4,q5⟩,qn⟩:=hown;have hne:xs≠[]:=by rintro rfl;simp at qn
   subst q3 q4 q5;subst ql;obtain ⟨J,hJ⟩:∃ J,commaB (textL xs)=J:=⟨_,rfl⟩;have h0:restL s k=([116,97,98,108,101] ++ ([58] ++ (i.data.toList ++ ([40] ++ (J.data.toList ++ (41 :: r)))))):=by rw [h,textC];simp only [hJ];simp
   have l0:k≤s.size:=hk;obtain ⟨a1,b1⟩:=piece_at (ends:=colE) h0 (by decide) (.inr ⟨_,_,rfl,by decide⟩);have b1:afterP s colE k=(k+5):=b1;have r1:restL s (k+5)=([58] ++ (i.data.toList ++ ([40] ++ (J.data.toList ++ (41 :: r))))):=rest_add h0;have l1:(k+5)≤s.size:=rest_len l0 h0;have w2:wantP s ⟨#[58]⟩ (k+5)=some ((k+5)+1):=want_at (t:=⟨#[58]⟩) r1;have r2:restL s ((k+5)+1)=(i.data.toList ++ ([40] ++ (J.data.toList ++ (41 :: r)))):=rest_add (p:=[58]) r1;have l2:((k+5)+1)≤s.size:=rest_len (p:=[58]) l1 r1;obtain ⟨a3,b3⟩:=piece_at (ends:=idE) r2 (fun b hb=>(id_no qi b hb).1) (.inr ⟨_,_,rfl,by decide⟩);rw [list_ba] at a3;rw [ba_size] at b3;have r3:restL s (((k+5)+1)+i.size)=([40] ++ (J.data.toList ++ (41 :: r))):=by have hq:=rest_add r2;rwa [ba_size] at hq
   have l3:(((k+5)+1)+i.size)≤s.size:=by have hq:=rest_len l2 r2;rwa [ba_size] at hq
   have w4:wantP s ⟨#[40]⟩ (((k+5)+1)+i.size)=some ((((k+5)+1)+i.size)+1):=want_at (t:=⟨#[40]⟩) r3;have r4:restL s ((((k+5)+1)+i.size)+1)=(J.data.toList ++ (41 :: r)):=rest_add (p:=[40]) r3;have l4:((((k+5)+1)+i.size)+1)≤s.size:=rest_len (p:=[40]) l3 r3;have j5:=inner_text s xs hne hix ((((k+5)+1)+i.size)+1) f r [] (by rw [hJ];exact r4) l4 (by omega);rw [hJ,List.nil_append] at j5;rw [contP_table a1];simp only [show (⟨#[58,44,41]⟩:ByteArray)=colE from rfl,show (⟨#[58,40,44,41]⟩:ByteArray)=idE from rfl];rw [b1];rw [w2];simp only [Option.bind_some];rw [a3,b3];rw [w4];simp only [Option.bind_some];rw [j5];simp only [Option.map_some];rw [textC];simp only [hJ,empty_lit];simp [ByteArray.size_append,lit_size]
   try omega
end Go.Cold
namespace Go.Cold
open Go Go.RowKit Go.Proofs.YtjgllhlilbchpaaGreatDoor
theorem until_le (r ends:ByteArray):untilN r ends≤r.size:=by
 unfold untilN;split
 · exact Nat.le_refl _
 ·
  rename_i h
  have h1:∀ (l cs:List UInt8),Lib.indexAny l cs≤l.length:=by
   intro l cs;induction l with
   | nil=>rw [Lib.indexAny];simp
   | cons b l ih =>
    rw [Lib.indexAny];simp only [List.length_cons];split
    · omega
    ·
     split
     · omega
     · push_cast;omega
  have:=h1 r.data.toList ends.data.toList;rw [ba_size] at this;omega
theorem rest_drop (s:ByteArray) (k n:Nat):restL s (k+n)=(restL s k).drop n:=by
 unfold restL;rw [List.drop_drop]
theorem piece_rev (s e:ByteArray) {k:Nat} (hk:k≤s.size):restL s k=(pieceP s e k).data.toList ++ restL s (afterP s e k)∧afterP s e k≤s.size:=by
 have h1:=until_le (s.extract k s.size) e;unfold pieceP afterP;refine ⟨?_,?_⟩
 ·
  rw [Lib.extract_data,rest_ext,rest_drop]
  simp
 · rw [ByteArray.size_extract] at h1;omega
theorem want_rev {s t:ByteArray} {k k':Nat} (hk:k≤s.size) (h:wantP s t k=some k'):restL s k=t.data.toList ++ restL s k'∧k'≤s.size:=by
 unfold wantP at h;split at h
 ·
  rename_i h1
  have h2:=skipB_le hk h1;cases h
  refine ⟨?_,h2⟩;unfold skipB Lib.hasPrefix at h1;obtain ⟨r,hr⟩:=List.isPrefixOf_iff_prefix.1 h1;rw [rest_ext] at hr;rw [rest_drop,← hr,← ba_size,List.drop_left]
 · cases h
theorem skip_rev {s t:ByteArray} {k:Nat} (hk:k≤s.size) (h:skipB s k t=true):restL s k=t.data.toList ++ restL s (k+t.size)∧k+t.size≤s.size :=
 want_rev hk (by unfold wantP;rw [if_pos h])
theorem num_rev {s:ByteArray} {k k':Nat} {n:Int} (hk:k≤s.size) (h:numAt s k=some (n,k')) (hn:0≤n):restL s k=(numT n).data.toList ++ restL s k'∧k'≤s.size:=by
 have hd:numAt s k=(numP (pieceP s slashE k)).map fun n=>(n,afterP s slashE k):=rfl
 rw [hd] at h;obtain ⟨h1,h2⟩:=piece_rev s slashE hk;cases hp:numP (pieceP s slashE k) with
 | none=>rw [hp] at h;cases h
 | some m =>
  rw [hp] at h;simp only [Option.map_some,Option.some.injEq,Prod.mk.injEq] at h;obtain ⟨rfl,rfl⟩:=h;refine ⟨?_,h2⟩;unfold numP at hp;split at hp
  ·
   rename_i z hz
   split at hp
   ·
    rename_i hi
    cases hp
    unfold Lib.itoa at hi;rw [if_neg (by omega)] at hi;rw [h1,← hi];rfl
   · cases hp
  · cases hp
def ReadC (s:ByteArray) (f:Nat):Prop:=∀ (k k':Nat) (c:Cont),k≤s.size→contP s f k=some (c,k')→AllOk c→restL s k=(textC c).data.toList ++ restL s k'∧k'≤s.size
def ReadI (s:ByteArray) (f:Nat):Prop:=∀ (k k':Nat) (xs ys:List Cont),k≤s.size→innerP s f k xs=some (ys,k')→∃ zs,ys=xs ++ zs∧zs≠[]∧((∀ z ∈ zs,AllOk z)→restL s k=(commaB (textL zs)).data.toList ++ 41 :: restL s k'∧k'≤s.size)
theorem read_inner {s:ByteArray} {f:Nat} (hc:ReadC s f) (hi:ReadI s f) (hle:∀ k c k',k≤s.size→contP s f k=some (c,k')→k'≤s.size):ReadI s (f+1):=by
 intro k k' xs ys hk h;rw [innerP] at h;obtain ⟨⟨x,k1⟩,h1,h2⟩:=Option.bind_eq_some_iff.1 h;have hk1:=hle _ _ _ hk h1;simp only at h2;split at h2
 ·
  rename_i hs
  cases h2
  obtain ⟨q1,q2⟩:=skip_rev hk1 hs;refine ⟨[x],rfl,by simp,fun hz=>?_⟩;obtain ⟨p1,p2⟩:=hc k k1 x hk h1 (hz x (by simp));refine ⟨?_,q2⟩;rw [textL,textL,comma_one,p1,q1];rfl
 ·
  obtain ⟨k2,h3,h4⟩:=Option.bind_eq_some_iff.1 h2
  obtain ⟨q1,q2⟩:=want_rev hk1 h3;obtain ⟨zs,e1,e2,e3⟩:=hi k2 k' _ _ q2 h4;refine ⟨x :: zs,by rw [e1];simp,by simp,fun hz=>?_⟩;obtain ⟨p1,p2⟩:=hc k k1 x hk h1 (hz x (by simp));obtain ⟨r1,r2⟩:=e3 (fun z hzz=>hz z (by simp [hzz]));obtain ⟨z,zs,rfl⟩:∃ z t,zs=z :: t:=by cases zs with | nil=>exact absurd rfl e2 | cons a b=>exact ⟨a,b,rfl⟩
  refine ⟨?_,r2⟩;rw [textL,textL,comma_two,p1,q1,r1,← textL];simp
theorem num_le {s:ByteArray} {k k':Nat} {n:Int} (hk:k≤s.size) (h:numAt s k=some (n,k')):k'≤s.size:=by
 have hd:numAt s k=(numP (pieceP s slashE k)).map fun n=>(n,afterP s slashE k):=rfl
 rw [hd] at h;obtain ⟨m,-,h2⟩:=Option.map_eq_some_iff.1 h;cases h2
 exact (piece_rev s slashE hk).2
set_option maxHeartbeats 1000000 in
theorem cont_le (s:ByteArray):∀ f:Nat,(∀ k c k',k≤s.size→contP s f k=some (c,k')→k'≤s.size)∧(∀ k xs ys k',k≤s.size→innerP s f k xs=some (ys,k')→k'≤s.size)
 | 0=>⟨fun k c k' _ h=>(by rw [contP] at h;cases h),fun k xs ys k' _ h=>(by rw [innerP] at h;cases h)⟩
 | f+1=>by
  obtain ⟨hcl,hle⟩:=cont_le s f;refine ⟨fun k c k' hk h=>?_,fun k xs ys k' hk h=>?_⟩;obtain ⟨a,c0⟩:=piece_rev s colE hk;by_cases h0:pieceP s colE k=⟨#[]⟩
  ·
   skip
   rw [contP_none h0] at h;cases h
   exact c0
  by_cases hK:pieceP s colE k=(⟨#[102,115]⟩:ByteArray)
  ·
   skip
   rw [contP_fs hK] at h;obtain ⟨k2,w0,h⟩:=Option.bind_eq_some_iff.1 h;obtain ⟨a0,b0⟩:=want_rev c0 w0;obtain ⟨a1,b1⟩:=piece_rev s idE b0;obtain ⟨q2,w2,h⟩:=Option.bind_eq_some_iff.1 h;obtain ⟨a2,b2⟩:=want_rev b1 w2;obtain ⟨a3,b3⟩:=piece_rev s endE b2;simp only [Option.some.injEq,Prod.mk.injEq] at h;obtain ⟨rfl,rfl⟩:=h;exact b3
  have h1:=hK;clear hK;by_cases hK:pieceP s colE k=(⟨#[114,97,105,100]⟩:ByteArray)
  ·
   skip
   rw [contP_raid hK] at h;obtain ⟨k2,w0,h⟩:=Option.bind_eq_some_iff.1 h;obtain ⟨a0,b0⟩:=want_rev c0 w0;obtain ⟨a1,b1⟩:=piece_rev s idE b0;obtain ⟨q2,w2,h⟩:=Option.bind_eq_some_iff.1 h;obtain ⟨a2,b2⟩:=want_rev b1 w2;obtain ⟨⟨n1,q3⟩,w3,h⟩:=Option.bind_eq_some_iff.1 h;simp only at h;have b3:=num_le b2 w3;obtain ⟨q4,w4,h⟩:=Option.bind_eq_some_iff.1 h;obtain ⟨a4,b4⟩:=want_rev b3 w4;obtain ⟨⟨n2,q5⟩,w5,h⟩:=Option.bind_eq_some_iff.1 h;simp only at h;have b5:=num_le b4 w5;obtain ⟨q6,w6,h⟩:=Option.bind_eq_some_iff.1 h;obtain ⟨a6,b6⟩:=want_rev b5 w6;obtain ⟨⟨n3,q7⟩,w7,h⟩:=Option.bind_eq_some_iff.1 h;simp only at h;have b7:=num_le b6 w7;obtain ⟨q8,w8,h⟩:=Option.bind_eq_some_iff.1 h;obtain ⟨a8,b8⟩:=want_rev b7 w8;obtain ⟨⟨xs,k11⟩,wj,h⟩:=Option.map_eq_some_iff.1 h;simp only [Prod.mk.injEq] at h;obtain ⟨rfl,rfl⟩:=h;exact hle _ _ _ _ b8 wj
  have h2:=hK;clear hK;by_cases hK:pieceP s colE k=(⟨#[99,114,121,112,116]⟩:ByteArray)
  ·
   skip
   rw [contP_crypt hK] at h;obtain ⟨k2,w0,h⟩:=Option.bind_eq_some_iff.1 h;obtain ⟨a0,b0⟩:=want_rev c0 w0;obtain ⟨a1,b1⟩:=piece_rev s idE b0;obtain ⟨q2,w2,h⟩:=Option.bind_eq_some_iff.1 h;obtain ⟨a2,b2⟩:=want_rev b1 w2;obtain ⟨⟨xs,k11⟩,wj,h⟩:=Option.map_eq_some_iff.1 h;simp only [Prod.mk.injEq] at h;obtain ⟨rfl,rfl⟩:=h;exact hle _ _ _ _ b2 wj
  have h3:=hK;clear hK;by_cases hK:pieceP s colE k=(⟨#[112,118]⟩:ByteArray)
  ·
   skip
   rw [contP_pv hK] at h;obtain ⟨k2,w0,h⟩:=Option.bind_eq_some_iff.1 h;obtain ⟨a0,b0⟩:=want_rev c0 w0;obtain ⟨a1,b1⟩:=piece_rev s idE b0;obtain ⟨q2,w2,h⟩:=Option.bind_eq_some_iff.1 h;obtain ⟨a2,b2⟩:=want_rev b1 w2;obtain ⟨⟨n1,q3⟩,w3,h⟩:=Option.bind_eq_some_iff.1 h;simp only at h;have b3:=num_le b2 w3;obtain ⟨q4,w4,h⟩:=Option.bind_eq_some_iff.1 h;obtain ⟨a4,b4⟩:=want_rev b3 w4;obtain ⟨⟨n2,q5⟩,w5,h⟩:=Option.bind_eq_some_iff.1 h;simp only at h;have b5:=num_le b4 w5;obtain ⟨q6,w6,h⟩:=Option.bind_eq_some_iff.1 h;obtain ⟨a6,b6⟩:=want_rev b5 w6;obtain ⟨⟨xs,k11⟩,wj,h⟩:=Option.map_eq_some_iff.1 h;simp only [Prod.mk.injEq] at h;obtain ⟨rfl,rfl⟩:=h;exact hle _ _ _ _ b6 wj
  have h4:=hK;clear hK;by_cases hK:pieceP s colE k=(⟨#[116,97,98,108,101]⟩:ByteArray)
  ·
   skip
   rw [contP_table hK] at h;obtain ⟨k2,w0,h⟩:=Option.bind_eq_some_iff.1 h;obtain ⟨a0,b0⟩:=want_rev c0 w0;obtain ⟨a1,b1⟩:=piece_rev s idE b0;obtain ⟨q2,w2,h⟩:=Option.bind_eq_some_iff.1 h;obtain ⟨a2,b2⟩:=want_rev b1 w2;obtain ⟨⟨xs,k11⟩,wj,h⟩:=Option.map_eq_some_iff.1 h;simp only [Prod.mk.injEq] at h;obtain ⟨rfl,rfl⟩:=h;exact hle _ _ _ _ b2 wj
  have h5:=hK;clear hK;rw [contP_other h0 h1 h2 h3 h4 h5] at h;cases h
  rw [innerP] at h;obtain ⟨⟨x,k1⟩,h1,h2⟩:=Option.bind_eq_some_iff.1 h;have hk1:=hcl _ _ _ hk h1;simp only at h2;split at h2
  ·
   rename_i hs
   cases h2
   exact (skip_rev hk1 hs).2
  ·
   obtain ⟨k2,h3,h4⟩:=Option.bind_eq_some_iff.1 h2
   exact hle _ _ _ _ (want_rev hk1 h3).2 h4
set_option maxHeartbeats 2000000 in
theorem read_back (s:ByteArray):∀ f:Nat,ReadC s f∧ReadI s f
 | 0=>⟨fun k k' c _ h=>(by rw [contP] at h;cases h),fun k k' xs ys _ h=>(by rw [innerP] at h;cases h)⟩
 | f+1=>by
  obtain ⟨hc,hi⟩:=read_back s f;refine ⟨fun k k' c hk h hall=>?_,read_inner hc hi (cont_le s f).1⟩;obtain ⟨a,c0⟩:=piece_rev s colE hk;by_cases h0:pieceP s colE k=⟨#[]⟩
  ·
   skip
   rw [contP_none h0] at h;simp only [Option.some.injEq,Prod.mk.injEq] at h;obtain ⟨rfl,rfl⟩:=h;refine ⟨?_,c0⟩;rw [a,h0,textC];simp [show (⟨#[58,44,41]⟩:ByteArray)=colE from rfl]
  by_cases hK:pieceP s colE k=(⟨#[102,115]⟩:ByteArray)
  ·
   skip
   rw [contP_fs hK] at h;obtain ⟨k2,w0,h⟩:=Option.bind_eq_some_iff.1 h;obtain ⟨a0,b0⟩:=want_rev c0 w0;obtain ⟨a1,b1⟩:=piece_rev s idE b0;obtain ⟨q2,w2,h⟩:=Option.bind_eq_some_iff.1 h;obtain ⟨a2,b2⟩:=want_rev b1 w2;obtain ⟨a3,b3⟩:=piece_rev s endE b2;simp only [Option.some.injEq,Prod.mk.injEq] at h;obtain ⟨rfl,rfl⟩:=h;obtain ⟨hown,hin⟩:=AllOk_mk.1 hall;obtain ⟨-,-,-,hs0,ht0,he0⟩:=own_nums hown;refine ⟨?_,b3⟩;rw [a,hK,a0,a1,a2,a3,textC];simp [idE,endE]
  have h1:=hK;clear hK;by_cases hK:pieceP s colE k=(⟨#[114,97,105,100]⟩:ByteArray)
  ·
   skip
   rw [contP_raid hK] at h;obtain ⟨k2,w0,h⟩:=Option.bind_eq_some_iff.1 h;obtain ⟨a0,b0⟩:=want_rev c0 w0;obtain ⟨a1,b1⟩:=piece_rev s idE b0;obtain ⟨q2,w2,h⟩:=Option.bind_eq_some_iff.1 h;obtain ⟨a2,b2⟩:=want_rev b1 w2;obtain ⟨⟨n1,q3⟩,w3,h⟩:=Option.bind_eq_some_iff.1 h;simp only at h;have b3:=num_le b2 w3;obtain ⟨q4,w4,h⟩:=Option.bind_eq_some_iff.1 h;obtain ⟨a4,b4⟩:=want_rev b3 w4;obtain ⟨⟨n2,q5⟩,w5,h⟩:=Option.bind_eq_some_iff.1 h;simp only at h;have b5:=num_le b4 w5;obtain ⟨q6,w6,h⟩:=Option.bind_eq_some_iff.1 h;obtain ⟨a6,b6⟩:=want_rev b5 w6;obtain ⟨⟨n3,q7⟩,w7,h⟩:=Option.bind_eq_some_iff.1 h;simp only at h;have b7:=num_le b6 w7;obtain ⟨q8,w8,h⟩:=Option.bind_eq_some_iff.1 h;obtain ⟨a8,b8⟩:=want_rev b7 w8;obtain ⟨⟨xs,k11⟩,wj,h⟩:=Option.map_eq_some_iff.1 h;simp only [Prod.mk.injEq] at h;obtain ⟨rfl,rfl⟩:=h;obtain ⟨hown,hin⟩:=AllOk_mk.1 hall;obtain ⟨-,-,-,hs0,ht0,he0⟩:=own_nums hown;obtain ⟨a3,-⟩:=num_rev b2 w3 hs0.1;obtain ⟨a5,-⟩:=num_rev b4 w5 ht0.1;obtain ⟨a7,-⟩:=num_rev b6 w7 he0.1;obtain ⟨zs,e1,e2,e3⟩:=hi _ _ _ _ b8 wj;rw [List.nil_append] at e1;subst e1;obtain ⟨r1,r2⟩:=e3 hin;refine ⟨?_,r2⟩;rw [a,hK,a0,a1,a2,a3,a4,a5,a6,a7,a8,r1,textC];simp [idE,endE]
  have h2:=hK;clear hK;by_cases hK:pieceP s colE k=(⟨#[99,114,121,112,116]⟩:ByteArray)
  ·
   skip
   rw [contP_crypt hK] at h;obtain ⟨k2,w0,h⟩:=Option.bind_eq_some_iff.1 h;obtain ⟨a0,b0⟩:=want_rev c0 w0;obtain ⟨a1,b1⟩:=piece_rev s idE b0;obtain ⟨q2,w2,h⟩:=Option.bind_eq_some_iff.1 h;obtain ⟨a2,b2⟩:=want_rev b1 w2;obtain ⟨⟨xs,k11⟩,wj,h⟩:=Option.map_eq_some_iff.1 h;simp only [Prod.mk.injEq] at h;obtain ⟨rfl,rfl⟩:=h;obtain ⟨hown,hin⟩:=AllOk_mk.1 hall;obtain ⟨-,-,-,hs0,ht0,he0⟩:=own_nums hown;obtain ⟨zs,e1,e2,e3⟩:=hi _ _ _ _ b2 wj;rw [List.nil_append] at e1;subst e1;obtain ⟨r1,r2⟩:=e3 hin;refine ⟨?_,r2⟩;rw [a,hK,a0,a1,a2,r1,textC];simp [idE,endE]
  have h3:=hK;clear hK;by_cases hK:pieceP s colE k=(⟨#[112,118]⟩:ByteArray)
  ·
   skip
   rw [contP_pv hK] at h;obtain ⟨k2,w0,h⟩:=Option.bind_eq_some_iff.1 h;obtain ⟨a0,b0⟩:=want_rev c0 w0;obtain ⟨a1,b1⟩:=piece_rev s idE b0;obtain ⟨q2,w2,h⟩:=Option.bind_eq_some_iff.1 h;obtain ⟨a2,b2⟩:=want_rev b1 w2;obtain ⟨⟨n1,q3⟩,w3,h⟩:=Option.bind_eq_some_iff.1 h;simp only at h;have b3:=num_le b2 w3;obtain ⟨q4,w4,h⟩:=Option.bind_eq_some_iff.1 h;obtain ⟨a4,b4⟩:=want_rev b3 w4;obtain ⟨⟨n2,q5⟩,w5,h⟩:=Option.bind_eq_some_iff.1 h;simp only at h;have b5:=num_le b4 w5;obtain ⟨q6,w6,h⟩:=Option.bind_eq_some_iff.1 h;obtain ⟨a6,b6⟩:=want_rev b5 w6;obtain ⟨⟨xs,k11⟩,wj,h⟩:=Option.map_eq_some_iff.1 h;simp only [Prod.mk.injEq] at h;obtain ⟨rfl,rfl⟩:=h;obtain ⟨hown,hin⟩:=AllOk_mk.1 hall;obtain ⟨-,-,-,hs0,ht0,he0⟩:=own_nums hown;obtain ⟨a3,-⟩:=num_rev b2 w3 hs0.1;obtain ⟨a5,-⟩:=num_rev b4 w5 ht0.1;obtain ⟨zs,e1,e2,e3⟩:=hi _ _ _ _ b6 wj;rw [List.nil_append] at e1;subst e1;obtain ⟨r1,r2⟩:=e3 hin;refine ⟨?_,r2⟩;rw [a,hK,a0,a1,a2,a3,a4,a5,a6,r1,textC];simp [idE,endE]
  have h4:=hK;clear hK;by_cases hK:pieceP s colE k=(⟨#[116,97,98,108,101]⟩:ByteArray)
  ·
   skip
   rw [contP_table hK] at h;obtain ⟨k2,w0,h⟩:=Option.bind_eq_some_iff.1 h;obtain ⟨a0,b0⟩:=want_rev c0 w0;obtain ⟨a1,b1⟩:=piece_rev s idE b0;obtain ⟨q2,w2,h⟩:=Option.bind_eq_some_iff.1 h;obtain ⟨a2,b2⟩:=want_rev b1 w2;obtain ⟨⟨xs,k11⟩,wj,h⟩:=Option.map_eq_some_iff.1 h;simp only [Prod.mk.injEq] at h;obtain ⟨rfl,rfl⟩:=h;obtain ⟨hown,hin⟩:=AllOk_mk.1 hall;obtain ⟨-,-,-,hs0,ht0,he0⟩:=own_nums hown;obtain ⟨zs,e1,e2,e3⟩:=hi _ _ _ _ b2 wj;rw [List.nil_append] at e1;subst e1;obtain ⟨r1,r2⟩:=e3 hin;refine ⟨?_,r2⟩;rw [a,hK,a0,a1,a2,r1,textC];simp [idE,endE]
  have h5:=hK;clear hK;rw [contP_other h0 h1 h2 h3 h4 h5] at h;cases h
theorem AllOk_parse {s:ByteArray} {c:Cont} (h:parseC s=some c):AllOk c∧depthC c≤6∧s.size≤256∧contP s (s.size+1) 0=some (c,s.size):=by
 unfold parseC at h;split at h
 · cases h
 ·
  rename_i h1
  split at h
  ·
   rename_i c' k' h2
   split at h
   ·
    rename_i h3
    cases h
    obtain ⟨rfl,h4⟩:=h3;obtain ⟨h5,h6⟩:=ok_of_bad h4;exact ⟨h5,h6,by omega,h2⟩
   · cases h
  · cases h
theorem text_parse {s:ByteArray} {c:Cont} (h:parseC s=some c):textC c=s:=by
 obtain ⟨h1,h2,h3,h4⟩:=AllOk_parse h;obtain ⟨h5,-⟩:=(read_back s _).1 0 s.size c (Nat.zero_le _) h4 h1;apply ba_ext
 have e1:restL s 0=s.data.toList:=by unfold restL;simp
 have e2:restL s s.size=[]:=by unfold restL;rw [← ba_size];simp
 rw [e1,e2,List.append_nil] at h5;exact h5.symm
theorem parse_text {c:Cont} (h:badC c=false) (hs:(textC c).size≤256):parseC (textC c)=some c:=by
 obtain ⟨h1,h2⟩:=ok_of_bad h;have h3:=reads_all (textC c) (szC c+1) c (by omega) h1 0 ((textC c).size+1) [] (by unfold restL;simp) (.inl rfl) (Nat.zero_le _) (by omega);unfold parseC;rw [if_neg (by omega),h3,Nat.zero_add];simp [h]
end Go.Cold
namespace Go.Cold
open Go Go.RowKit
def Shut (L:List Dev) (p:Dev→Bool):Prop:=∀ d ∈ L,p d=true→∀ e ∈ L,e.idx=d.par→p e=true
end Go.Cold
namespace Go.Cold
open Go Go.RowKit
end Go.Cold
namespace Go.Cold
open Go Go.RowKit
def FreeS {α:Type} [RepS α] (N:Nat→Prop) (w:World) (A:Option Addr) (c:Nat) (l:List α):Prop:=SlS w (fun x=>x<w.heap.size∧¬ N x) A c l
section
variable {α:Type} [RepS α] {N N' F:Nat→Prop} {w w':World} {A:Option Addr} {c q base:Nat} {T:TypeId} {v:Value} {l:List α}
theorem FreeS.below (h:FreeS N w A c l) (hb:Below w.heap.size w w'):FreeS N w' A c l :=
 SlS.mono (fun x hx=>⟨Nat.lt_of_lt_of_le hx.1 hb.size,hx.2⟩) (fun _ _ _ _ hu=>hu) (SlS.below h hb (fun x hx=>hx.1))
theorem FreeS.grown (h:FreeS N w A c l) (hg:w.grownBy w' (some q)) (hq:N q∨w.heap.size≤q):FreeS N w' A c l :=
 SlS.mono (fun x hx=>⟨Nat.lt_of_lt_of_le hx.1 hg.size,hx.2⟩) (fun b o u hb hu=>hg.cell hu (fun e=>by have e:b=q:=Option.some.inj e;subst e;rcases hq with h1 | h1;exact hb.2 h1;have:=hb.1;omega)) h
theorem FreeS.set_ (h:FreeS N w A c l) (hq:N q) (j:Nat) (v:Value):FreeS N (w.setCell ⟨q,j,none⟩ v) A c l:=h.grown (grown_one w q j v) (.inl hq)
theorem FreeS.out (h:FreeS N w A c l):Sl w w.heap.size A c l:=SlS.sl h (fun x hx=>hx.1)
theorem FreeS.more (h:FreeS N w A c l) (hN:∀ x,x<w.heap.size→N' x→N x):FreeS N' w A c l:=SlS.mono (fun x hx=>⟨hx.1,fun h1=>hx.2 (hN x hx.1 h1)⟩) (fun _ _ _ _ hu=>hu) h
theorem FreeS.nil_:FreeS N w none 0 ([]:List α):=⟨by simp,by simp [maxLen],fun h=>absurd h (by simp)⟩
theorem OwnsS.free (h:OwnsS F w base T v l) (hN:∀ x,N x→x<base∧¬ F x):∃ A c,v=.slice A l.length c∧FreeS N w A c l:=by
 obtain ⟨A,c,h1,h2⟩:=h.cs;exact ⟨A,c,h1,SlS.mono (fun x hx=>⟨hx.2,fun hn=>by obtain ⟨h3,h4⟩:=hN x hn;rcases hx.1 with h5 | h5;exact h4 h5;omega⟩) (fun _ _ _ _ hu=>hu) h2⟩
theorem SlS.free {S:Nat→Prop} (h:SlS w S A c l) (hS:∀ x,S x→x<w.heap.size∧¬ N x):FreeS N w A c l:=SlS.mono hS (fun _ _ _ _ hu=>hu) h
end
end Go.Cold
