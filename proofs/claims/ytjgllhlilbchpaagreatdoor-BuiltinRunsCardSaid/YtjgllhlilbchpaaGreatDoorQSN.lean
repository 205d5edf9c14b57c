/-
  The plain side of layer 7,on: what the reference's reader computes,and that it reads the text of a valid content as this content. No program is named here.
-/
import Derived.Test.YtjgllhlilbchpaaGreatDoorQSL
import Derived.Lib.SplitLaws
import Derived.Lib.IndexBytes
import Derived.Test.YtjgllhlilbchpaaGreatDoorQTK
import Derived.Test.YtjgllhlilbchpaaGreatDoorQSB
set_option linter.unusedSimpArgs false
set_option linter.unusedVariables false
namespace Go.Cold
open Go Go.RowKit Go.Proofs.YtjgllhlilbchpaaGreatDoor
def partsB (c:UInt8) (s:ByteArray):List ByteArray:=Lib.splitB ⟨#[c]⟩ 0 (Lib.countB s ⟨#[c]⟩) s
def splitL (s:List UInt8) (c:UInt8):List (List UInt8):=Lib.splitK [c] 0 (Lib.count s [c]) s
theorem indexByte_no {s:List UInt8} {c:UInt8} (h:∀ b ∈ s,b≠c):Lib.indexByte s c = -1:=by
 induction s with
 | nil=>rfl
 | cons b s ih =>
  rw [Lib.indexByte,if_neg (by simpa using h b List.mem_cons_self),ih (fun x hx=>h x (List.mem_cons_of_mem _ hx))];rfl
theorem indexByte_at {a r:List UInt8} {c:UInt8} (h:∀ b ∈ a,b≠c):Lib.indexByte (a ++ c :: r) c=a.length:=by
 induction a with
 | nil=>rw [List.nil_append,Lib.indexByte,if_pos (by simp)];rfl
 | cons b a ih =>
  rw [List.cons_append,Lib.indexByte,if_neg (by simpa using h b List.mem_cons_self),ih (fun x hx=>h x (List.mem_cons_of_mem _ hx)),if_neg (by simp <;> omega)];rw [List.length_cons];omega
theorem split_no {s:List UInt8} {c:UInt8} (h:∀ b ∈ s,b≠c):splitL s c=[s]:=by
 unfold splitL;rw [Lib.count_miss (by rw [Lib.index_one,indexByte_no h])];rfl
theorem c7split_at {a r:List UInt8} {c:UInt8} (h:∀ b ∈ a,b≠c):splitL (a ++ c :: r) c=a :: splitL r c:=by
 have hi:Lib.index (a ++ c :: r) [c]=a.length:=by rw [Lib.index_one,indexByte_at h]
 have hc:Lib.count (a ++ c :: r) [c]=Lib.count r [c]+1:=by
  rw [Lib.count_hit (by simp) hi];have:(a ++ c :: r).drop (a.length+[c].length)=r:=by rw [← List.drop_drop,List.drop_left];rfl
  rw [this];omega
 unfold splitL;rw [hc,Lib.splitK,hi,if_neg (by simp <;> omega)];have h1:(a ++ c :: r).take ((a.length:Int).toNat+0)=a:=by simp
 have h2:(a ++ c :: r).drop ((a.length:Int).toNat+[c].length)=r:=by
  rw [Int.toNat_natCast,← List.drop_drop,List.drop_left];rfl
 rw [h1,h2]
theorem parts_map (c:UInt8) (s:ByteArray):partsB c s=(splitL s.data.toList c).map fun l=>⟨l.toArray⟩:=by
 have h:=Lib.splitB_data ⟨#[c]⟩ 0 (Lib.countB s ⟨#[c]⟩) s;have h2:(partsB c s).map (·.data.toList)=splitL s.data.toList c:=h;rw [← h2,List.map_map];have h3:((fun l:List UInt8=>(⟨l.toArray⟩:ByteArray))∘fun x:ByteArray=>x.data.toList)=id:=by funext x;apply ba_ext;simp
 rw [h3,List.map_id]

def numRd (s:ByteArray):Int:=match s.data.toList with
 | [a]=>if 49≤a.toNat∧a.toNat≤57 then a.toNat - 48 else 0
 | [a,b]=>if (49≤a.toNat∧a.toNat≤57)∧48≤b.toNat∧b.toNat≤57 then 10 * (a.toNat - 48)+(b.toNat - 48) else 0
 | _=>0
theorem numRd_T:∀ n:Fin 17,numRd (numT n.val)=(n.val:Int):=by decide +kernel
def fsN:ByteArray:=⟨#[102,115]⟩
def raidN:ByteArray:=⟨#[114,97,105,100]⟩
def cryptN:ByteArray:=⟨#[99,114,121,112,116]⟩
def pvN:ByteArray:=⟨#[112,118]⟩
def tableN:ByteArray:=⟨#[116,97,98,108,101]⟩
def headP (p:List ByteArray):Option Cont :=
 let at':Nat→ByteArray:=fun i=>p.getD i ⟨#[]⟩
 let sl:List ByteArray:=if p.length=3 then partsB 47 (at' 2) else []
 if p.length<2 then none
 else if at' 0=fsN∧p.length=3 then some (.mk 1 (at' 1) (at' 2) 0 0 0 [])
 else if at' 0=raidN∧sl.length=3 then some (.mk 2 (at' 1) ⟨#[]⟩ (numRd (sl.getD 0 ⟨#[]⟩)) (numRd (sl.getD 1 ⟨#[]⟩)) (numRd (sl.getD 2 ⟨#[]⟩)) [])
 else if at' 0=cryptN∧p.length=2 then some (.mk 3 (at' 1) ⟨#[]⟩ 0 0 0 [])
 else if at' 0=pvN∧sl.length=2 then some (.mk 4 (at' 1) ⟨#[]⟩ (numRd (sl.getD 0 ⟨#[]⟩)) (numRd (sl.getD 1 ⟨#[]⟩)) 0 [])
 else if at' 0=tableN∧p.length=2 then some (.mk 5 (at' 1) ⟨#[]⟩ 0 0 0 [])
 else none
def putIn:Cont→List Cont→Cont
 | .mk k i l s t e _,xs=>.mk k i l s t e xs
def kindOf:Cont→Int
 | .mk k _ _ _ _ _ _=>k
def brE:ByteArray:=⟨#[40,44,41]⟩
def headE (b:Option UInt8):Bool:=b == none || b == some 44 || b == some 41
def loopR (f:ByteArray→Option (Cont × ByteArray)):Nat→ByteArray→List Cont→Option (List Cont × ByteArray)
 | 0,_,_=>none
 | n+1,rest,acc =>
  if rest.data.toList.head? = some 41 then some (acc,rest)
  else match f (rest.extract 1 rest.size) with
   | none=>none
   | some (x,more)=>if more.size=0 then none else loopR f n more (acc ++ [x])
def zeroC:Cont:=.mk 0 ⟨#[]⟩ ⟨#[]⟩ 0 0 0 []
def readS (f:ByteArray→Option (Cont × ByteArray)) (s:ByteArray):Option (Cont × ByteArray) :=
 let n:=untilN s brE
 let rest:=s.extract n s.size
 match headP (partsB 58 (s.extract 0 n)) with
 | none=>none
 | some c =>
  if kindOf c=1 then some (c,rest)
  else if rest.data.toList.head? = some 40 then
   match loopR f rest.size rest [] with
   | none=>none
   | some (l,r)=>some (putIn c l,r.extract 1 r.size)
  else none
def readR:Nat→ByteArray→Option (Cont × ByteArray)
 | 0,s=>if headE s.data.toList.head? then some (zeroC,s) else none
 | d+1,s=>if headE s.data.toList.head? then some (zeroC,s) else readS (readR d) s
noncomputable def refP (s:ByteArray):Option Cont :=
 if 256<s.size then none
 else match readR 6 s with
  | none=>none
  | some (c,r)=>if r.size=0∧badC c=false∧textC c=s then some c else none

theorem tail_list (s:ByteArray) {b:UInt8} {r:List UInt8} (h:s.data.toList=b :: r):(s.extract 1 s.size).data.toList=r:=by
 rw [rest_ext];unfold restL;rw [h];rfl
theorem all_ext (s:ByteArray):s.extract 0 s.size=s:=by apply ba_ext;rw [rest_ext];rfl
theorem until_all {s ends:ByteArray} {p r:List UInt8} (h:s.data.toList=p ++ r) (hp:∀ b ∈ p,ends.data.toList.contains b=false) (hr:EndsIn ends r):untilN s ends=p.length:=by
 have h1:=until_at (s:=s) (k:=0) h hp hr;rwa [all_ext] at h1
theorem head_list {s:ByteArray} {p r:List UInt8} (h:s.data.toList=p ++ r):s.extract 0 p.length=⟨p.toArray⟩:=by
 apply ba_ext
 rw [Lib.extract_data,h];simp
theorem back_list {s:ByteArray} {p r:List UInt8} (h:s.data.toList=p ++ r):s.extract p.length s.size=⟨r.toArray⟩:=by
 apply ba_ext
 rw [rest_ext];unfold restL;rw [h,List.drop_left]
theorem of_list {s:ByteArray} {l:List UInt8} (h:s.data.toList=l):s=⟨l.toArray⟩:=by apply ba_ext;simp [h]
theorem loop_text (f:ByteArray→Option (Cont × ByteArray)):∀ (xs:List Cont),xs≠[]→
  (∀ x ∈ xs,∀ (s:ByteArray) (r:List UInt8),s.data.toList=(textC x).data.toList ++ r→EndR r→f s=some (x,⟨r.toArray⟩))→
  ∀ (n:Nat) (rest:ByteArray) (b:UInt8) (r:List UInt8) (acc:List Cont),b≠41→rest.data.toList=b :: ((commaB (textL xs)).data.toList ++ 41 :: r)→rest.size≤n→
  loopR f n rest acc=some (acc ++ xs,⟨(41 :: r).toArray⟩)
 | [],h,_=>absurd rfl h
 | [x],_,hx=>fun n rest b r acc hb h hn=>by
  have hc:(commaB (textL [x])).data.toList=(textC x).data.toList:=by rw [textL,textL,comma_one]
  rw [hc] at h;have hsz:rest.size≥2:=by rw [← ba_size,h];simp;omega
  obtain ⟨n,rfl⟩:∃ m,n=m+2:=⟨n - 2,by omega⟩;have h1:=hx x (by simp) (rest.extract 1 rest.size) (41 :: r) (tail_list rest h) (.inr ⟨_,_,rfl,.inr rfl⟩);rw [loopR,h,List.head?_cons,if_neg (by simpa using hb),h1];simp only
  rw [if_neg (by rw [← ba_size];simp),loopR,if_pos (by simp)]
 | x :: y :: ys,_,hx=>fun n rest b r acc hb h hn=>by
  have hc:(commaB (textL (x :: y :: ys))).data.toList=(textC x).data.toList ++ 44 :: (commaB (textL (y :: ys))).data.toList:=by
   rw [textL,textL,comma_two,← textL]
  rw [hc,List.append_assoc,List.cons_append] at h;have hsz:rest.size=1+((textC x).data.toList.length+(1+((commaB (textL (y :: ys))).data.toList.length+(1+r.length)))):=by rw [← ba_size,h];simp;omega
  obtain ⟨n,rfl⟩:∃ m,n=m+1:=⟨n - 1,by omega⟩;have h1:=hx x (by simp) (rest.extract 1 rest.size) _ (tail_list rest h) (.inr ⟨_,_,rfl,.inl rfl⟩);have ih:=loop_text f (y :: ys) (by simp) (fun z hz=>hx z (by simp only [List.mem_cons] at hz ⊢;exact .inr hz)) n ⟨(44 :: ((commaB (textL (y :: ys))).data.toList ++ 41 :: r)).toArray⟩ 44 r (acc ++ [x]) (by decide) (by simp) (by have hg:=ba_size (commaB (textL (y :: ys)));show (List.toArray _).size≤n;simp;omega);rw [loopR,h,List.head?_cons,if_neg (by simpa using hb),h1];simp only
  rw [if_neg (by rw [← ba_size];simp),ih];simp
theorem br_byte:∀ n:Fin 256,idE.data.toList.contains (UInt8.ofNat n.val)=false→brE.data.toList.contains (UInt8.ofNat n.val)=false∧UInt8.ofNat n.val≠58:=by decide +kernel
theorem id_br {i:ByteArray} (h:idB i=true):∀ b ∈ i.data.toList,brE.data.toList.contains b=false∧b≠58:=by
 intro b hb;have h1:=(id_no h b hb).1;have h2:=br_byte ⟨b.toNat,UInt8.toNat_lt b⟩;have h3:UInt8.ofNat b.toNat=b:=by simp
 simp only [h3] at h2;exact h2 h1
theorem num_br:∀ n:Fin 17,∀ b ∈ (numT n.val).data.toList,brE.data.toList.contains b=false∧b≠58∧b≠47:=by decide +kernel
theorem EndR.br {r:List UInt8} (h:EndR r):EndsIn brE r:=by
 rcases h with rfl | ⟨b,r',rfl,rfl | rfl⟩
 · exact .inl rfl
 · exact .inr ⟨_,_,rfl,by decide⟩
 · exact .inr ⟨_,_,rfl,by decide⟩
theorem EndR.head {r:List UInt8} (h:EndR r):headE r.head? = true:=by
 rcases h with rfl | ⟨b,r',rfl,rfl | rfl⟩ <;> simp [headE]
section
variable {p0 p1 p2:ByteArray} {Q:List ByteArray}
theorem headP_short {P:List ByteArray} (h:P.length<2):headP P=none:=by unfold headP;simp only;rw [if_pos h]
theorem headP_none3 (h1:p0≠fsN) (h2:¬ (p0=raidN∧(partsB 47 p2).length=3)) (h4:¬ (p0=pvN∧(partsB 47 p2).length=2)):headP [p0,p1,p2]=none:=by
 unfold headP;simp only [List.getD_cons_zero,List.getD_cons_succ,List.length_cons,List.length_nil];rw [if_neg (by decide),if_neg (fun h=>h1 h.1),if_neg (fun h=>h2 ⟨h.1,by simpa using h.2⟩),if_neg (fun h=>absurd h.2 (by decide)),if_neg (fun h=>h4 ⟨h.1,by simpa using h.2⟩),if_neg (fun h=>absurd h.2 (by decide))]
theorem headP_none2 (h3:p0≠cryptN) (h5:p0≠tableN):headP [p0,p1]=none:=by
 unfold headP;simp only [List.getD_cons_zero,List.getD_cons_succ,List.length_cons,List.length_nil];rw [if_neg (by decide),if_neg (fun h=>absurd h.2 (by decide)),if_neg (fun h=>absurd h.2 (by decide)),if_neg (fun h=>h3 h.1),if_neg (fun h=>absurd h.2 (by decide)),if_neg (fun h=>h5 h.1)]
theorem headP_noneN {P:List ByteArray} (h2:P.length≠2) (h3:P.length≠3):headP P=none:=by
 unfold headP;simp only
 split
 · rfl
 · rw [if_neg (fun h=>h3 h.2),if_neg (fun h=>by first | exact absurd h.2 (by decide) | (rw [if_neg h3] at h;exact absurd h.2 (by decide))),if_neg (fun h=>h2 h.2),if_neg (fun h=>by first | exact absurd h.2 (by decide) | (rw [if_neg h3] at h;exact absurd h.2 (by decide))),if_neg (fun h=>h2 h.2)]
theorem headP_fs (h:p0=fsN):headP [p0,p1,p2]=some (.mk 1 p1 p2 0 0 0 []):=by
 unfold headP;simp only [List.getD_cons_zero,List.getD_cons_succ,List.length_cons,List.length_nil];rw [if_neg (by decide),if_pos ⟨h,by decide⟩]
theorem headP_raid (h:p0=raidN) {q0 q1 q2:ByteArray} (hs:partsB 47 p2=[q0,q1,q2]):headP [p0,p1,p2]=some (.mk 2 p1 ⟨#[]⟩ (numRd q0) (numRd q1) (numRd q2) []):=by
 unfold headP;simp only [List.getD_cons_zero,List.getD_cons_succ,List.length_cons,List.length_nil,hs];rw [if_neg (by decide),if_neg (fun e=>absurd (h.symm.trans e.1) (by decide)),if_pos ⟨h,by simp⟩];rfl
theorem headP_pv (h:p0=pvN) {q0 q1:ByteArray} (hs:partsB 47 p2=[q0,q1]):headP [p0,p1,p2]=some (.mk 4 p1 ⟨#[]⟩ (numRd q0) (numRd q1) 0 []):=by
 unfold headP;simp only [List.getD_cons_zero,List.getD_cons_succ,List.length_cons,List.length_nil,hs];rw [if_neg (by decide),if_neg (fun e=>absurd (h.symm.trans e.1) (by decide)),if_neg (fun e=>absurd (h.symm.trans e.1) (by decide)),if_neg (fun e=>absurd (h.symm.trans e.1) (by decide)),if_pos ⟨h,by simp⟩];rfl
theorem headP_crypt (h:p0=cryptN):headP [p0,p1]=some (.mk 3 p1 ⟨#[]⟩ 0 0 0 []):=by
 unfold headP;simp only [List.getD_cons_zero,List.getD_cons_succ,List.length_cons,List.length_nil];rw [if_neg (by decide),if_neg (fun h=>absurd h.2 (by decide)),if_neg (fun h=>absurd h.2 (by decide)),if_pos ⟨h,by decide⟩]
theorem headP_table (h:p0=tableN):headP [p0,p1]=some (.mk 5 p1 ⟨#[]⟩ 0 0 0 []):=by
 unfold headP;simp only [List.getD_cons_zero,List.getD_cons_succ,List.length_cons,List.length_nil];rw [if_neg (by decide),if_neg (fun h=>absurd h.2 (by decide)),if_neg (fun h=>absurd h.2 (by decide)),if_neg (fun e=>absurd (h.symm.trans e.1) (by decide)),if_neg (fun h=>absurd h.2 (by decide)),if_pos ⟨h,by decide⟩]
end
end Go.Cold
namespace Go.Cold
open Go Go.RowKit Go.Proofs.YtjgllhlilbchpaaGreatDoor
theorem headE_cons {b:UInt8} {l:List UInt8} (h:b≠44) (h2:b≠41):headE (b :: l).head? = false:=by
 unfold headE;simp [h,h2]
set_option maxHeartbeats 4000000 in
theorem read_text (N:Nat):∀ c:Cont,szC c<N→AllOk c→∀ (d:Nat) (s:ByteArray) (r:List UInt8),depthC c≤d→s.data.toList=(textC c).data.toList ++ r→EndR r→readR d s=some (c,⟨r.toArray⟩):=by
 induction N with
 | zero=>intro c h;omega
 | succ N ih =>
  intro c hsz hall d s r hd h hr;obtain ⟨kk,i,l,sl,t,e,xs⟩:=c;obtain ⟨hown,hin⟩:=AllOk_mk.1 hall;obtain ⟨hkind,-,-,hs0,ht0,he0⟩:=own_nums hown;obtain ⟨sl,rfl⟩:=Int.eq_ofNat_of_zero_le hs0.1;obtain ⟨t,rfl⟩:=Int.eq_ofNat_of_zero_le ht0.1;obtain ⟨e,rfl⟩:=Int.eq_ofNat_of_zero_le he0.1;have hsl:sl≤16:=by omega
  have htl:t≤16:=by omega
  have hel:e≤16:=by omega
  have hdn:=depthL_nonneg xs;have hix:kk≠0→∀ d':Nat,d=d'+1→∀ x ∈ xs,∀ (s:ByteArray) (r:List UInt8),s.data.toList=(textC x).data.toList ++ r→EndR r→readR d' s=some (x,⟨r.toArray⟩):=by
   intro hk d' hd' x hx s r;refine ih x (by have:=szC_mem (k:=kk) (i:=i) (l:=l) (s:=(sl:Int)) (t:=(t:Int)) (e:=(e:Int)) hx;omega) (hin x hx) d' s r ?_;rw [depthC,if_neg hk] at hd;have:=depthL_mem hx;omega
  rcases hkind with rfl | rfl | rfl | rfl | rfl | rfl
  ·
   have h1:textC (.mk 0 i l sl t e xs)=⟨#[]⟩:=by rw [textC];simp
   rw [h1] at h;have h2:s.data.toList=r:=h;have h3:=of_list h2;unfold ownB noneB at hown;simp [empty_iff] at hown
   obtain ⟨q1,q2,⟨q3,q4,q5⟩,q6⟩:=hown;subst q1 q2 q3 q4 q5 q6;rw [empty_lit];cases d with
   | zero=>rw [readR,h2,if_pos hr.head,h3];rfl
   | succ d=>rw [readR,h2,if_pos hr.head,h3];rfl
  ·
   skip
   rw [depthC,if_neg (by decide)] at hd;obtain ⟨d,rfl⟩:∃ g,d=g+1:=⟨d - 1,by omega⟩;have hix:=hix (by decide) d rfl;unfold ownB noneB slots2 c7withinB at hown;simp [empty_iff] at hown
   obtain ⟨qi,ql,⟨q3,q4,q5⟩,q6⟩:=hown;subst q3 q4 q5 q6;have h0:s.data.toList=([102,115] ++ 58 :: (i.data.toList ++ 58 :: l.data.toList)) ++ r:=by rw [h,textC];simp
   have hli:=id_br qi;have hll:∀ b ∈ l.data.toList,brE.data.toList.contains b=false∧b≠58:=by
    rcases ql with q2 | q2
    · rw [q2];intro b hb;cases hb
    · exact id_br q2
   have hb:∀ b ∈ ([102,115] ++ 58 :: (i.data.toList ++ 58 :: l.data.toList)),brE.data.toList.contains b=false:=by
    intro b hb;simp only [List.mem_append,List.mem_cons,List.not_mem_nil,or_false] at hb;rcases hb with (rfl | rfl) | rfl | hb | rfl | hb
    all_goals first | decide | exact (hli _ hb).1 | exact (hll _ hb).1
   have hu:=until_all h0 hb hr.br;have hh:=head_list h0;have hk:=back_list h0;have hp:partsB 58 ⟨([102,115] ++ 58 :: (i.data.toList ++ 58 :: l.data.toList)).toArray⟩=[⟨([102,115]).toArray⟩,⟨(i.data.toList).toArray⟩,⟨(l.data.toList).toArray⟩]:=by
    rw [parts_map,c7split_at (by decide),c7split_at (fun b hb=>(hli b hb).2),split_no (fun b hb=>(hll b hb).2)];try rfl
   have hc:headP [⟨([102,115]).toArray⟩,⟨(i.data.toList).toArray⟩,⟨(l.data.toList).toArray⟩]=some (.mk 1 i l 0 0 0 []):=by
    refine (headP_fs rfl).trans ?_;try simp only [list_ba]
   have hf:headE s.data.toList.head? = false:=by rw [h0];exact headE_cons (by decide) (by decide)
   rw [readR,if_neg (by rw [hf];simp)];unfold readS;simp only [hu,hh,hk,hp,hc];rw [if_pos (show kindOf (Cont.mk 1 i l 0 0 0 [])=1 from rfl)];simp
  ·
   skip
   rw [depthC,if_neg (by decide)] at hd;obtain ⟨d,rfl⟩:∃ g,d=g+1:=⟨d - 1,by omega⟩;have hix:=hix (by decide) d rfl;unfold ownB noneB slots2 c7withinB at hown;simp [empty_iff] at hown
   obtain ⟨qi,ql,-,-,qn⟩:=hown;have hne:xs≠[]:=by rintro rfl;simp at qn
   subst ql;obtain ⟨J,hJ⟩:∃ J,commaB (textL xs)=J:=⟨_,rfl⟩;have h0:s.data.toList=([114,97,105,100] ++ 58 :: (i.data.toList ++ 58 :: ((numT sl).data.toList ++ 47 :: ((numT t).data.toList ++ 47 :: (numT e).data.toList)))) ++ (40 :: (J.data.toList ++ 41 :: r)):=by rw [h,textC];simp only [hJ];simp
   have hli:=id_br qi;have hn1:=num_br ⟨sl,by omega⟩;have hn2:=num_br ⟨t,by omega⟩;have hn3:=num_br ⟨e,by omega⟩;have hb:∀ b ∈ ([114,97,105,100] ++ 58 :: (i.data.toList ++ 58 :: ((numT sl).data.toList ++ 47 :: ((numT t).data.toList ++ 47 :: (numT e).data.toList)))),brE.data.toList.contains b=false:=by
    intro b hb;simp only [List.mem_append,List.mem_cons,List.not_mem_nil,or_false] at hb;rcases hb with (rfl | rfl | rfl | rfl) | rfl | hb | rfl | hb | rfl | hb | rfl | hb
    all_goals first | decide | exact (hli _ hb).1 | exact (hn1 _ hb).1 | exact (hn2 _ hb).1 | exact (hn3 _ hb).1
   have hu:=until_all h0 hb (.inr ⟨_,_,rfl,by decide⟩);have hh:=head_list h0;have hk:=back_list h0;have ht58:∀ b ∈ ((numT sl).data.toList ++ 47 :: ((numT t).data.toList ++ 47 :: (numT e).data.toList)),b≠58:=by
    intro b hb;simp only [List.mem_append,List.mem_cons,List.not_mem_nil,or_false] at hb;rcases hb with hb | rfl | hb | rfl | hb
    all_goals first | decide | exact (hn1 _ hb).2.1 | exact (hn2 _ hb).2.1 | exact (hn3 _ hb).2.1
   have hsl3:partsB 47 ⟨((numT sl).data.toList ++ 47 :: ((numT t).data.toList ++ 47 :: (numT e).data.toList)).toArray⟩=[numT sl,numT t,numT e]:=by
    rw [parts_map,c7split_at (fun b hb=>(hn1 b hb).2.2),c7split_at (fun b hb=>(hn2 b hb).2.2),split_no (fun b hb=>(hn3 b hb).2.2)];simp only [List.map_cons,List.map_nil,list_ba]
   have hp:partsB 58 ⟨([114,97,105,100] ++ 58 :: (i.data.toList ++ 58 :: ((numT sl).data.toList ++ 47 :: ((numT t).data.toList ++ 47 :: (numT e).data.toList)))).toArray⟩=[⟨([114,97,105,100]).toArray⟩,⟨(i.data.toList).toArray⟩,⟨((numT sl).data.toList ++ 47 :: ((numT t).data.toList ++ 47 :: (numT e).data.toList)).toArray⟩]:=by
    rw [parts_map,c7split_at (by decide),c7split_at (fun b hb=>(hli b hb).2),split_no ht58];try rfl
   have hc:headP [⟨([114,97,105,100]).toArray⟩,⟨(i.data.toList).toArray⟩,⟨((numT sl).data.toList ++ 47 :: ((numT t).data.toList ++ 47 :: (numT e).data.toList)).toArray⟩]=some (.mk 2 i ⟨#[]⟩ sl t e []):=by
    refine (headP_raid rfl hsl3).trans ?_;rw [numRd_T ⟨sl,by omega⟩,numRd_T ⟨t,by omega⟩,numRd_T ⟨e,by omega⟩];try simp only [list_ba]
   have hf:headE s.data.toList.head? = false:=by rw [h0];exact headE_cons (by decide) (by decide)
   rw [readR,if_neg (by rw [hf];simp)];unfold readS;simp only [hu,hh,hk,hp,hc];have hlo:=loop_text (readR d) xs hne hix (⟨(40 :: (J.data.toList ++ 41 :: r)).toArray⟩:ByteArray).size ⟨(40 :: (J.data.toList ++ 41 :: r)).toArray⟩ 40 r [] (by decide) (by rw [hJ]) (Nat.le_refl _);rw [if_neg (by simp [kindOf]),if_pos (by simp),hlo];simp only [List.nil_append,putIn];rw [show (⟨(41 :: r).toArray⟩:ByteArray).extract 1 (⟨(41 :: r).toArray⟩:ByteArray).size=⟨r.toArray⟩ from of_list (tail_list _ rfl)];simp [empty_lit]
  ·
   skip
   rw [depthC,if_neg (by decide)] at hd;obtain ⟨d,rfl⟩:∃ g,d=g+1:=⟨d - 1,by omega⟩;have hix:=hix (by decide) d rfl;unfold ownB noneB slots2 c7withinB at hown;simp [empty_iff] at hown
   obtain ⟨qi,ql,⟨q3,q4,q5⟩,qn⟩:=hown;have hne:xs≠[]:=by rintro rfl;simp at qn
   subst q3 q4 q5;subst ql;obtain ⟨J,hJ⟩:∃ J,commaB (textL xs)=J:=⟨_,rfl⟩;have h0:s.data.toList=([99,114,121,112,116] ++ 58 :: i.data.toList) ++ (40 :: (J.data.toList ++ 41 :: r)):=by rw [h,textC];simp only [hJ];simp
   have hli:=id_br qi;have hb:∀ b ∈ ([99,114,121,112,116] ++ 58 :: i.data.toList),brE.data.toList.contains b=false:=by
    intro b hb;simp only [List.mem_append,List.mem_cons,List.not_mem_nil,or_false] at hb;rcases hb with (rfl | rfl | rfl | rfl | rfl) | rfl | hb
    all_goals first | decide | exact (hli _ hb).1 | fail
   have hu:=until_all h0 hb (.inr ⟨_,_,rfl,by decide⟩);have hh:=head_list h0;have hk:=back_list h0;have hp:partsB 58 ⟨([99,114,121,112,116] ++ 58 :: i.data.toList).toArray⟩=[⟨([99,114,121,112,116]).toArray⟩,⟨(i.data.toList).toArray⟩]:=by
    rw [parts_map,c7split_at (by decide),split_no (fun b hb=>(hli b hb).2)];try rfl
   have hc:headP [⟨([99,114,121,112,116]).toArray⟩,⟨(i.data.toList).toArray⟩]=some (.mk 3 i ⟨#[]⟩ 0 0 0 []):=by
    refine (headP_crypt rfl).trans ?_;try simp only [list_ba]
   have hf:headE s.data.toList.head? = false:=by rw [h0];exact headE_cons (by decide) (by decide)
   rw [readR,if_neg (by rw [hf];simp)];unfold readS;simp only [hu,hh,hk,hp,hc];have hlo:=loop_text (readR d) xs hne hix (⟨(40 :: (J.data.toList ++ 41 :: r)).toArray⟩:ByteArray).size ⟨(40 :: (J.data.toList ++ 41 :: r)).toArray⟩ 40 r [] (by decide) (by rw [hJ]) (Nat.le_refl _);rw [if_neg (by simp [kindOf]),if_pos (by simp),hlo];simp only [List.nil_append,putIn];rw [show (⟨(41 :: r).toArray⟩:ByteArray).extract 1 (⟨(41 :: r).toArray⟩:ByteArray).size=⟨r.toArray⟩ from of_list (tail_list _ rfl)];simp [empty_lit]
  ·
   skip
   rw [depthC,if_neg (by decide)] at hd;obtain ⟨d,rfl⟩:∃ g,d=g+1:=⟨d - 1,by omega⟩;have hix:=hix (by decide) d rfl;unfold ownB noneB slots2 c7withinB at hown;simp [empty_iff] at hown
   obtain ⟨qi,ql,-,q5,qn⟩:=hown;have hne:xs≠[]:=by rintro rfl;simp at qn
   subst q5;subst ql;obtain ⟨J,hJ⟩:∃ J,commaB (textL xs)=J:=⟨_,rfl⟩;have h0:s.data.toList=([112,118] ++ 58 :: (i.data.toList ++ 58 :: ((numT sl).data.toList ++ 47 :: (numT t).data.toList))) ++ (40 :: (J.data.toList ++ 41 :: r)):=by rw [h,textC];simp only [hJ];simp
   have hli:=id_br qi;have hn1:=num_br ⟨sl,by omega⟩;have hn2:=num_br ⟨t,by omega⟩;have hb:∀ b ∈ ([112,118] ++ 58 :: (i.data.toList ++ 58 :: ((numT sl).data.toList ++ 47 :: (numT t).data.toList))),brE.data.toList.contains b=false:=by
    intro b hb;simp only [List.mem_append,List.mem_cons,List.not_mem_nil,or_false] at hb;rcases hb with (rfl | rfl) | rfl | hb | rfl | hb | rfl | hb
    all_goals first | decide | exact (hli _ hb).1 | exact (hn1 _ hb).1 | exact (hn2 _ hb).1
   have hu:=until_all h0 hb (.inr ⟨_,_,rfl,by decide⟩);have hh:=head_list h0;have hk:=back_list h0;have ht58:∀ b ∈ ((numT sl).data.toList ++ 47 :: (numT t).data.toList),b≠58:=by
    intro b hb;simp only [List.mem_append,List.mem_cons,List.not_mem_nil,or_false] at hb;rcases hb with hb | rfl | hb
    all_goals first | decide | exact (hn1 _ hb).2.1 | exact (hn2 _ hb).2.1 
   have hsl3:partsB 47 ⟨((numT sl).data.toList ++ 47 :: (numT t).data.toList).toArray⟩=[numT sl,numT t]:=by
    rw [parts_map,c7split_at (fun b hb=>(hn1 b hb).2.2),split_no (fun b hb=>(hn2 b hb).2.2)];simp only [List.map_cons,List.map_nil,list_ba]
   have hp:partsB 58 ⟨([112,118] ++ 58 :: (i.data.toList ++ 58 :: ((numT sl).data.toList ++ 47 :: (numT t).data.toList))).toArray⟩=[⟨([112,118]).toArray⟩,⟨(i.data.toList).toArray⟩,⟨((numT sl).data.toList ++ 47 :: (numT t).data.toList).toArray⟩]:=by
    rw [parts_map,c7split_at (by decide),c7split_at (fun b hb=>(hli b hb).2),split_no ht58];try rfl
   have hc:headP [⟨([112,118]).toArray⟩,⟨(i.data.toList).toArray⟩,⟨((numT sl).data.toList ++ 47 :: (numT t).data.toList).toArray⟩]=some (.mk 4 i ⟨#[]⟩ sl t 0 []):=by
    refine (headP_pv rfl hsl3).trans ?_;rw [numRd_T ⟨sl,by omega⟩,numRd_T ⟨t,by omega⟩];try simp only [list_ba]
   have hf:headE s.data.toList.head? = false:=by rw [h0];exact headE_cons (by decide) (by decide)
   rw [readR,if_neg (by rw [hf];simp)];unfold readS;simp only [hu,hh,hk,hp,hc];have hlo:=loop_text (readR d) xs hne hix (⟨(40 :: (J.data.toList ++ 41 :: r)).toArray⟩:ByteArray).size ⟨(40 :: (J.data.toList ++ 41 :: r)).toArray⟩ 40 r [] (by decide) (by rw [hJ]) (Nat.le_refl _);rw [if_neg (by simp [kindOf]),if_pos (by simp),hlo];simp only [List.nil_append,putIn];rw [show (⟨(41 :: r).toArray⟩:ByteArray).extract 1 (⟨(41 :: r).toArray⟩:ByteArray).size=⟨r.toArray⟩ from of_list (tail_list _ rfl)];simp [empty_lit]
  ·
   skip
   rw [depthC,if_neg (by decide)] at hd;obtain ⟨d,rfl⟩:∃ g,d=g+1:=⟨d - 1,by omega⟩;have hix:=hix (by decide) d rfl;unfold ownB noneB slots2 c7withinB at hown;simp [empty_iff] at hown
   obtain ⟨qi,ql,⟨q3,q4,q5⟩,qn⟩:=hown;have hne:xs≠[]:=by rintro rfl;simp at qn
   subst q3 q4 q5;subst ql;obtain ⟨J,hJ⟩:∃ J,commaB (textL xs)=J:=⟨_,rfl⟩;have h0:s.data.toList=([116,97,98,108,101] ++ 58 :: i.data.toList) ++ (40 :: (J.data.toList ++ 41 :: r)):=by rw [h,textC];simp only [hJ];simp
   have hli:=id_br qi;have hb:∀ b ∈ ([116,97,98,108,101] ++ 58 :: i.data.toList),brE.data.toList.contains b=false:=by
    intro b hb;simp only [List.mem_append,List.mem_cons,List.not_mem_nil,or_false] at hb;rcases hb with (rfl | rfl | rfl | rfl | rfl) | rfl | hb
    all_goals first | decide | exact (hli _ hb).1 | fail
   have hu:=until_all h0 hb (.inr ⟨_,_,rfl,by decide⟩);have hh:=head_list h0;have hk:=back_list h0;have hp:partsB 58 ⟨([116,97,98,108,101] ++ 58 :: i.data.toList).toArray⟩=[⟨([116,97,98,108,101]).toArray⟩,⟨(i.data.toList).toArray⟩]:=by
    rw [parts_map,c7split_at (by decide),split_no (fun b hb=>(hli b hb).2)];try rfl
   have hc:headP [⟨([116,97,98,108,101]).toArray⟩,⟨(i.data.toList).toArray⟩]=some (.mk 5 i ⟨#[]⟩ 0 0 0 []):=by
    refine (headP_table rfl).trans ?_;try simp only [list_ba]
   have hf:headE s.data.toList.head? = false:=by rw [h0];exact headE_cons (by decide) (by decide)
   rw [readR,if_neg (by rw [hf];simp)];unfold readS;simp only [hu,hh,hk,hp,hc];have hlo:=loop_text (readR d) xs hne hix (⟨(40 :: (J.data.toList ++ 41 :: r)).toArray⟩:ByteArray).size ⟨(40 :: (J.data.toList ++ 41 :: r)).toArray⟩ 40 r [] (by decide) (by rw [hJ]) (Nat.le_refl _);rw [if_neg (by simp [kindOf]),if_pos (by simp),hlo];simp only [List.nil_append,putIn];rw [show (⟨(41 :: r).toArray⟩:ByteArray).extract 1 (⟨(41 :: r).toArray⟩:ByteArray).size=⟨r.toArray⟩ from of_list (tail_list _ rfl)];simp [empty_lit]
theorem ref_parse (s:ByteArray):refP s=parseC s:=by
 cases h:parseC s with
 | some c =>
  obtain ⟨h1,h2,h3,-⟩:=AllOk_parse h;have h4:=text_parse h;have h5:=read_text (szC c+1) c (by omega) h1 6 s [] (by omega) (by rw [h4];simp) (.inl rfl);unfold refP;rw [if_neg (by omega),h5];simp only
  rw [if_pos ⟨rfl,bad_of h1 h2,h4⟩]
 | none =>
  unfold refP;by_cases hs:256<s.size
  · rw [if_pos hs]
  ·
   rw [if_neg hs]
   split
   · rfl
   ·
    rename_i c r hr
    split
    ·
     rename_i hq
     obtain ⟨-,hbad,ht⟩:=hq;have:=parse_text hbad (by rw [ht];omega);rw [ht,h] at this;cases this
    · rfl
end Go.Cold
namespace Go.Cold
open Go Go.RowKit
theorem take_step {α:Type} {l:List α} {k:Nat} {x:α} {P:α→Bool} (h:(l.take k).all P=true) (hx:l[k]? = some x) (hp:P x=true):(l.take (k+1)).all P=true:=by
 rw [List.take_add_one,List.all_append,h,hx];simp [hp]
theorem until_found {s ends:ByteArray} {k:Nat} {x:UInt8} (h:(s.data.toList.take k).all (fun b=>!ends.data.toList.contains b)=true) (hx:s.data.toList[k]? = some x) (hc:ends.data.toList.contains x=true):untilN s ends=k:=by
 have hk:k<s.data.toList.length:=(List.getElem?_eq_some_iff.1 hx).1;have h1:s.data.toList=s.data.toList.take k ++ x :: s.data.toList.drop (k+1):=by
  have h2:=(List.getElem?_eq_some_iff.1 hx).2;rw [← h2,← List.drop_eq_getElem_cons hk,List.take_append_drop]
 have h3:=until_all (ends:=ends) h1 (fun b hb=>by have:=List.all_eq_true.1 h b hb;simpa using this) (.inr ⟨_,_,rfl,hc⟩);rw [h3,List.length_take];omega
theorem until_end {s ends:ByteArray} (h:(s.data.toList.take s.size).all (fun b=>!ends.data.toList.contains b)=true):untilN s ends=s.size:=by
 rw [List.take_of_length_le (by rw [ba_size];exact Nat.le_refl _)] at h;have h3:=until_all (s:=s) (p:=s.data.toList) (ends:=ends) (r:=[]) (by simp) (fun b hb=>by have:=List.all_eq_true.1 h b hb;simpa using this) (.inl rfl);rw [h3,ba_size]
def numV (l:List UInt8):Int:=l.foldl (fun n b=>10 * n+((b.toNat:Int) - 48)) 0
def digB (b:UInt8):Bool:=decide (48≤b.toNat) && decide (b.toNat≤57)
theorem numV_step {l:List UInt8} {k:Nat} {x:UInt8} (hx:l[k]? = some x):numV (l.take (k+1))=10 * numV (l.take k)+((x.toNat:Int) - 48):=by
 unfold numV;rw [List.take_add_one,List.foldl_append,hx];rfl
theorem numR_long {s:ByteArray} (h:2<s.size):numRd s=0:=by
 rw [← ba_size] at h;unfold numRd;match hl:s.data.toList with
 | []=>rfl
 | [a]=>rw [hl] at h;simp at h
 | [a,b]=>rw [hl] at h;simp at h
 | _ :: _ :: _ :: _=>rfl
theorem numR_nil {s:ByteArray} (h:s.size=0):numRd s=0:=by
 rw [← ba_size] at h;unfold numRd;rw [List.eq_nil_of_length_eq_zero h]
theorem numR_zero {s:ByteArray} {x:UInt8} (hx:s.data.toList[0]? = some x) (h:x.toNat=48):numRd s=0:=by
 unfold numRd;match hl:s.data.toList with
 | []=>rfl
 | [a]=>rw [hl] at hx;simp at hx;subst hx;simp only;rw [if_neg (by omega)]
 | [a,b]=>rw [hl] at hx;simp at hx;subst hx;simp only;rw [if_neg (by omega)]
 | _ :: _ :: _ :: _=>rfl
theorem numR_bad {s:ByteArray} {k:Nat} {x:UInt8} (hx:s.data.toList[k]? = some x) (h:digB x=false):numRd s=0:=by
 have hd:¬ (48≤x.toNat∧x.toNat≤57):=by unfold digB at h;simp at h;omega
 unfold numRd;match hl:s.data.toList with
 | []=>rfl
 | [a] =>
  rw [hl] at hx;have hk:k=0:=by have:=(List.getElem?_eq_some_iff.1 hx).1;simp at this;omega
  subst hk;simp at hx;subst hx;simp only;rw [if_neg (by omega)]
 | [a,b] =>
  rw [hl] at hx;have hk:k=0∨k=1:=by have:=(List.getElem?_eq_some_iff.1 hx).1;simp at this;omega
  rcases hk with rfl | rfl
  · simp at hx;subst hx;simp only;rw [if_neg (by omega)]
  · simp at hx;subst hx;simp only;rw [if_neg (by omega)]
 | _ :: _ :: _ :: _=>rfl
theorem numR_ok {s:ByteArray} {x:UInt8} (h1:0<s.size) (h2:s.size≤2) (hx:s.data.toList[0]? = some x) (h0:x.toNat≠48) (hall:(s.data.toList.take s.size).all digB=true):numRd s=numV s.data.toList:=by
 rw [List.take_of_length_le (by rw [ba_size];exact Nat.le_refl _)] at hall;rw [← ba_size] at h1 h2;unfold numRd;match hl:s.data.toList with
 | []=>rw [hl] at h1;simp at h1
 | [a] =>
  rw [hl] at hx hall;simp at hx;subst hx
  simp [digB] at hall
  simp only;rw [if_pos (by omega)];unfold numV;simp
 | [a,b] =>
  rw [hl] at hx hall;simp at hx;subst hx
  simp [digB] at hall
  simp only;rw [if_pos (by omega)];unfold numV;simp
 | _ :: _ :: _ :: _=>rw [hl] at h2;simp at h2
end Go.Cold
namespace Go.Proofs.YtjgllhlilbchpaaGreatDoor
open Go.RowKit Go.Cold

set_option maxRecDepth 10000 in
theorem RUntil_any (s:ByteArray) (w:World) (hs:s.size≤maxLen):Calls Tryz.prog 155 #[.string s,.string brE] w fun e w'=>e=.returned (.tuple #[.string (s.extract 0 (untilN s brE)),.string (s.extract (untilN s brE) s.size)])∧Below w.heap.size w w':=by
 unfold maxLen at hs;obtain ⟨E,hE⟩:∃ E,brE=E:=⟨_,rfl⟩;rw [hE];obtain ⟨L,hL⟩:∃ L,E.data.toList=L:=⟨_,rfl⟩;have HL:=Lh_ hL;clear hE hL;go_enter Tryz.func155,Tryz.ntmps155;go_wp2_with fail;go_loop [6] (fun i=>∃ k:Nat,k≤s.size∧i=.int .i64 k∧Hid ((s.data.toList.take k).all (fun b=>!L.contains b)=true)) (fun i=>s.size - (intOf i).toNat)
 case atStart=>exact ⟨0,Nat.zero_le _,rfl,rfl⟩
 case round =>
  obtain ⟨k,hk,rfl,HA⟩:=hrel;by_cases hlt:k<s.size
  ·
   obtain ⟨x,hx⟩:∃ x:UInt8,s[k]'hlt=x:=⟨_,rfl⟩
   have hxl:s.data.toList[k]? = some x:=by rw [← hx];exact Lib.data_getElem? s k hlt
   have HX:=Lh_ hxl;clear hxl;go_wp2_with fail;refine (IndexByte_at _ L HL.out x _).mono ?_;rintro e w' ⟨rfl,rfl⟩;have hin:=Lib.contains_iff_indexByte L x;obtain ⟨z,hz⟩:∃ z,Lib.indexByte L x=z:=⟨_,rfl⟩;rw [hz] at hin ⊢;have HIN:=Lh_ hin;clear hin hz;by_cases hz0:0≤z
   ·
    have hc:L.contains x=true:=by rw [HIN.out];simp;omega
    have hu:=until_found (ends:=E) (by rw [HL.out];exact HA.out) HX.out (by rw [HL.out];exact hc);have HU:=Lh_ hu;clear hc hu;have i1:(k:Int)≤(s.size:Int):=by omega
    go_wp2_with fail;go_quiet (fail)
    go_wp2_with fail;go_ret2;rw [HU.out];exact ⟨rfl,below_drewN_self _ _ _⟩
   ·
    have hc:L.contains x=false:=by rw [HIN.out];simp;omega
    have HC:=Lh_ hc;clear hc;go_wp2;go_round
    case rel=>exact ⟨k+1,by omega,by go_num,take_step HA.out HX.out (by have:=HC.out;simp only [this];rfl)⟩
    case measure=>simp [intOf];omega
  ·
   have hk2:k=s.size:=by omega
   have hu:=until_end (s:=s) (ends:=E) (by rw [HL.out,← hk2];exact HA.out);have HU:=Lh_ hu;clear hu;go_wp2;go_ret2;rw [HU.out,all_ext];refine ⟨?_,Below.refl _ _⟩;have:s.extract s.size s.size=⟨#[]⟩:=by apply ba_ext;rw [Lib.extract_data];simp
   rw [this];rfl

set_option maxRecDepth 10000 in
theorem c7RNumber_any (s:ByteArray) (w:World) (hs:s.size≤maxLen):Calls Tryz.prog 156 #[.string s] w fun e w'=>e=.returned (.int .i64 (numRd s))∧w'=w:=by
 unfold maxLen at hs;go_enter Tryz.func156,Tryz.ntmps156;by_cases h2:2<s.size
 ·
  have h2i:(2:Int)<(s.size:Int):=by omega
  have HR:=Lh_ (numR_long h2);go_wp2;go_ret;exact ⟨by rw [HR.out];try rfl,rfl⟩
 have h2i:¬ (2:Int)<(s.size:Int):=by omega
 by_cases h0:s.size=0
 ·
  have he:s.toList=[]:=by
   have h:=ba_size s;rw [h0] at h;have h3:=List.eq_nil_of_length_eq_zero h;have h4:s=⟨#[]⟩:=of_list h3;rw [h4];decide +kernel
  have HR:=Lh_ (numR_nil h0);go_wp2;go_ret;exact ⟨by rw [HR.out];try rfl,rfl⟩
 have hpos:0<s.size:=by omega
 have he:¬ s.toList=[]:=fun h=>h0 (by rw [(empty_iff s).1 h];rfl)
 have he2:s.toList.isEmpty=false:=by simpa using he
 obtain ⟨x0,hx0⟩:∃ x:UInt8,s[0]'hpos=x:=⟨_,rfl⟩;have hxl0:s.data.toList[0]? = some x0:=by rw [← hx0];exact Lib.data_getElem? s 0 hpos
 have HX0:=Lh_ hxl0;clear hxl0;by_cases h48:x0.toNat=48
 ·
  have h48i:((x0.toNat:Int) == 48)=true:=beq_iff_eq.2 (by omega)
  have HR:=Lh_ (numR_zero HX0.out h48);go_wp2;go_ret;exact ⟨by rw [HR.out];try rfl,rfl⟩
 have h48i:((x0.toNat:Int) == 48)=false:=beq_eq_false_iff_ne.2 (by omega);have H48:=Lh_ h48;clear h48;go_wp2_with fail;go_loop [3,4] (fun n i=>∃ (k:Nat) (v:Int),k≤s.size∧i=.int .i64 k∧n=.int .i64 v∧Hid (v=numV (s.data.toList.take k)∧(s.data.toList.take k).all digB=true∧0≤v∧v<10 ^ k)) (fun _ i=>s.size - (intOf i).toNat)
 case atStart=>exact ⟨0,0,Nat.zero_le _,rfl,rfl,⟨rfl,rfl,by omega,by omega⟩⟩
 case round =>
  obtain ⟨k,v,hk,rfl,rfl,HA⟩:=hrel;by_cases hlt:k<s.size
  ·
   obtain ⟨x,hx⟩:∃ x:UInt8,s[k]'hlt=x:=⟨_,rfl⟩
   have hxl:s.data.toList[k]? = some x:=by rw [← hx];exact Lib.data_getElem? s k hlt
   have HX:=Lh_ hxl;clear hxl;by_cases hlo:x.toNat<48
   ·
    have i1:(x.toNat:Int)<48:=by omega
    have HR:=Lh_ (numR_bad HX.out (by unfold digB;simp;omega));go_wp2;go_ret;exact ⟨by rw [HR.out];try rfl,rfl⟩
   have i1:¬ (x.toNat:Int)<48:=by omega
   by_cases hhi:57<x.toNat
   ·
    have i2:(57:Int)<(x.toNat:Int):=by omega
    have HR:=Lh_ (numR_bad HX.out (by unfold digB;simp;omega));go_wp2;go_ret;exact ⟨by rw [HR.out];try rfl,rfl⟩
   have i2:¬ (57:Int)<(x.toNat:Int):=by omega
   have hpow:v<10:=by
    obtain ⟨-,-,h3,h4⟩:=HA.out;have:k=0∨k=1:=by omega
    rcases this with rfl | rfl <;> omega
   have hv0:0≤v:=HA.out.2.2.1;have e1:IntKind.u8.wrap ((x.toNat:Int) - 48)=(x.toNat:Int) - 48:=by
    unfold IntKind.wrap;simp [IntKind.bits,IntKind.signed];omega
   have e2:IntKind.i64.wrap ((x.toNat:Int) - 48)=(x.toNat:Int) - 48:=wrap_small _ (by omega) (by omega);have e3:IntKind.i64.wrap (10 * v)=10 * v:=wrap_small _ (by omega) (by omega);have e4:IntKind.i64.wrap (10 * v+((x.toNat:Int) - 48))=10 * v+((x.toNat:Int) - 48):=wrap_small _ (by omega) (by omega);go_wp2;go_round
   case rel =>
    refine ⟨k+1,10 * v+((x.toNat:Int) - 48),by omega,by go_num,by first | rfl | (simp only [e1,e2,e3,e4]),⟨?_,take_step HA.out.2.1 HX.out (by unfold digB;simp;omega),by omega,?_⟩⟩
    · rw [numV_step HX.out,← HA.out.1]
    ·
     have h4:=HA.out.2.2.2
     rw [Nat.pow_succ] at *;have h5:(10:Int) ^ (k+1)=10 ^ k * 10:=by rw [Int.pow_succ]
     omega
   case measure=>simp [intOf];omega
  ·
   have hk2:k=s.size:=by omega
   have hr:=numR_ok hpos (by omega) HX0.out H48.out (by rw [← hk2];exact HA.out.2.1);have hv:v=numRd s:=by
    rw [hr,HA.out.1,hk2,List.take_of_length_le (by rw [ba_size];exact Nat.le_refl _)]
   have HV:=Lh_ hv;clear hv hr;go_wp2;go_ret;exact ⟨by rw [← HV.out];try rfl,rfl⟩
end Go.Proofs.YtjgllhlilbchpaaGreatDoor
