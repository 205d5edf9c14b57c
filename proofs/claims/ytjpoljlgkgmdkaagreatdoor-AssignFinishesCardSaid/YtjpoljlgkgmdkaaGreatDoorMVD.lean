/-
  Regions that draw their order,with one condition on the world that is kept but behind the late operations: the operations that yield the same in every such world are taken first. No program is named here.
-/
import Derived.OrdersHeld
import Derived.Lib.FieldsP
import Derived.Lib.TrimU
import Derived.Lib.TrimUEq
import Derived.Test.YtjpoljlgkgmdkaaGreatDoorMVB
import Derived.Shelf.Spec.SearchS
set_option linter.unusedSimpArgs false
set_option linter.unusedVariables false
namespace Go
section
variable {P:Program} {ops:Array Oper} {Q:Exit→Act→World→Prop} {md:Region.Mode} {S:World→Prop} {late:Nat→Bool}
def lateU (md:Region.Mode) (ops:Array Oper) (late:Nat→Bool) (i:Nat):Bool:=(List.range ops.size).all fun j=>!late j || (match ops[j]? with | some o=>o.after.any (fun e=>Region.binds md e && e.on == i) | none=>true)
theorem lateU_spec {i j:Nat} {o:Oper} (h:lateU md ops late i=true) (ho:ops[j]? = some o) (hl:late j=true):∃ e ∈ o.after,Region.binds md e=true∧e.on=i:=by
 have hj:j<ops.size:=(Array.getElem?_eq_some_iff.1 ho).1;have h1:=List.all_eq_true.1 h j (List.mem_range.2 hj);rw [hl,ho] at h1;simp only [Bool.not_true,Bool.false_or,Array.any_eq_true'] at h1;obtain ⟨e,he,h2⟩:=h1;rw [Bool.and_eq_true] at h2;exact ⟨e,he,h2.1,by simpa using h2.2⟩
def wpAnyHL (P:Program) (md:Region.Mode) (ops:Array Oper) (Q:Exit→Act→World→Prop) (S:World→Prop) (late:Nat→Bool):Nat→Array Bool→Act→World→Prop
 | 0,listed,a,w=>Region.ready md ops listed=[]∧Q .normal a w
 | fuel+1,listed,a,w =>
  (Region.ready md ops listed=[]→Q .normal a w)∧
  ∀ i ∈ Region.ready md ops listed,wpOp P ops Q i (fun a' w'=>(late i=false→S w')∧wpAnyHL P md ops Q S late fuel (listed.setIfInBounds i true) a' w') a w
theorem wpAny_of_late:∀ (fuel:Nat) (listed:Array Bool) (a:Act) (w:World),wpAnyHL P md ops Q S late fuel listed a w→wpAny P md ops Q fuel listed a w
 | 0,_,_,_,h=>h
 | fuel+1,_,_,_,h=>⟨h.1,fun i hi=>wpOp_mono (fun a' w' h'=>wpAny_of_late fuel _ a' w' h'.2) (h.2 i hi)⟩
theorem wpAnyHL_first {i:Nat} {oi:Oper} {v:Value} (hlate:lateU md ops late i=true) (hi:ops[i]? = some oi) (hsel:∀ (j:Nat) (o:Oper) cs b,ops[j]? = some o→o.op≠.select cs b)
  (hQ:∀ c a w,Q (.panic c) (a.put oi.dst v) w→Q (.panic c) a w) :
  ∀ (fuel:Nat) (listed:Array Bool) (a:Act) (w:World),
   (∀ j oj,ops[j]? = some oj→j≠i→listed.getD j true=false→(∀ e ∈ oj.after,Region.binds md e=true→e.on≠i)→oi.apart ops oj=true)→
   i ∈ Region.ready md ops listed→YieldsIf P ops S oi v a→S w→
   wpAnyHL P md ops Q S late fuel (listed.setIfInBounds i true) (a.put oi.dst v) w→wpAnyHL P md ops Q S late (fuel+1) listed a w:=by
 intro fuel;induction fuel with
 | zero =>
  intro listed a w _ hr hy hS H;refine ⟨fun h=>(by rw [h] at hr;cases hr),fun j hj=>?_⟩;by_cases hji:j=i
  · subst hji;exact hy.wpOp hi hS ⟨fun _=>hS,H⟩
  ·
   have:=ready_mono hj hji
   rw [H.1] at this;cases this
 | succ fuel ih =>
  intro listed a w hfree hr hy hS H;refine ⟨fun h=>(by rw [h] at hr;cases hr),fun j hj=>?_⟩;by_cases hji:j=i
  · subst hji;exact hy.wpOp hi hS ⟨fun _=>hS,H⟩
  ·
   have h1:=H.2 j (ready_mono hj hji)
   obtain ⟨hjun,oj,hoj,hall⟩:=mem_ready.1 hj;have hnot:∀ e ∈ oj.after,Region.binds md e=true→e.on≠i:=fun e he hb heq=>by
    have h1:=hall e he hb;have h0:=(mem_ready.1 hr).1;rw [heq] at h1;rcases Nat.lt_or_ge i listed.size with h' | h'
    · simp [h'] at h0 h1;rw [h0] at h1;cases h1
    · simp [Array.getElem?_eq_none h'] at h1
   have hnl:late j=false:=by
    cases hl:late j with
    | false=>rfl
    | true=>obtain ⟨e,he,hb,hon⟩:=lateU_spec hlate hoj hl;exact absurd hon (hnot e he hb)
   have h2:=wpOp_putIf hoj (hfree j oj hoj hji hjun hnot) (fun cs b=>hsel i oi cs b hi) (fun cs b=>hsel j oj cs b hoj) hQ hy h1;have hfree':∀ k ok,ops[k]? = some ok→k≠i→(listed.setIfInBounds j true).getD k true=false→
     (∀ e ∈ ok.after,Region.binds md e=true→e.on≠i)→oi.apart ops ok=true:=fun k ok hk hki hun hno=>by
    refine hfree k ok hk hki ?_ hno;by_cases hjk:j=k
    · subst hjk;exact hjun
    · rw [getD_set_ne true hjk] at hun;exact hun
   refine wpOp_mono (fun a' w' h3=>⟨h3.2.1,ih (listed.setIfInBounds j true) a' w' hfree' (ready_mono hr (Ne.symm hji)) h3.1 (h3.2.1 hnl) ?_⟩) h2;rw [Array.setIfInBounds_comm _ _ hji];exact h3.2.2
theorem wpAnyHL_take {i:Nat} {oi:Oper} {v:Value} {fuel:Nat} {listed:Array Bool} {a:Act} {w:World} (hlate:lateU md ops late i=true) (hi:ops[i]? = some oi)
  (hs:Region.noSelect ops=true) (hf:Region.free md ops listed i=true) (hr:(Region.ready md ops listed).contains i=true)
  (hQ:∀ c a w,Q (.panic c) (a.put oi.dst v) w→Q (.panic c) a w) (hy:YieldsIf P ops S oi v a) (hS:S w)
  (h:wpAnyHL P md ops Q S late fuel (listed.setIfInBounds i true) (a.put oi.dst v) w):wpAnyHL P md ops Q S late (fuel+1) listed a w :=
 wpAnyHL_first hlate hi (Region.noSelect_spec hs) hQ fuel listed a w (Region.free_spec hi hf) (by simpa using hr) hy hS h
theorem wpAnyHL_done {listed:Array Bool} {a:Act} {w:World} (hr:Region.ready md ops listed=[]) (h:Q .normal a w) :
  ∀ fuel,wpAnyHL P md ops Q S late fuel listed a w
 | 0=>⟨hr,h⟩
 | _+1=>⟨fun _=>h,by rw [hr];simp⟩
def AllReadyHL (P:Program) (md:Region.Mode) (ops:Array Oper) (Q:Exit→Act→World→Prop) (S:World→Prop) (late:Nat→Bool) (fuel:Nat) (listed:Array Bool) (a:Act) (w:World) (rs:List Nat):Prop :=
 ∀ i ∈ rs,wpOp P ops Q i (fun a' w'=>(late i=false→S w')∧wpAnyHL P md ops Q S late fuel (listed.setIfInBounds i true) a' w') a w
theorem AllReadyHL.nil {fuel:Nat} {listed:Array Bool} {a:Act} {w:World}:AllReadyHL P md ops Q S late fuel listed a w []:=fun _ h=>by cases h
theorem AllReadyHL.cons {fuel:Nat} {listed:Array Bool} {a:Act} {w:World} {i:Nat} {o:Oper} {rs:List Nat} (ho:ops[i]? = some o)
  (h:∀ K':Act→World→Prop,Shut (∀ a w,(late i=false→S w)→wpAnyHL P md ops Q S late fuel (listed.setIfInBounds i true) a w→K' a w)→if Region.wanted o (yielded ops a.tmps)=true then Oper.wp P o a w K' Q else K' (a.put o.dst undef) w)
  (hs:AllReadyHL P md ops Q S late fuel listed a w rs):AllReadyHL P md ops Q S late fuel listed a w (i :: rs):=fun j hj=>by
 rcases List.mem_cons.1 hj with rfl | hj
 · exact wpOp_step ho (fun K' hK=>h K' (fun a w hS hW=>hK a w ⟨hS,hW⟩))
 · exact hs j hj
theorem wpAnyHL_ready {rs:List Nat} {fuel:Nat} {listed:Array Bool} {a:Act} {w:World} (hr:Region.ready md ops listed=rs) (hne:rs≠[])
  (h:AllReadyHL P md ops Q S late fuel listed a w rs):wpAnyHL P md ops Q S late (fuel+1) listed a w:=⟨fun h0=>absurd (hr ▸ h0) hne,hr ▸ h⟩
theorem meetHL {fuel:Nat} {listed:Array Bool} {a:Act} {w:World} (h:∀ X:Nat→Array Bool→Act→World→Prop,(∀ f l a w,X f l a w→wpAnyHL P md ops Q S late f l a w)→(∀ f l a w,wpAnyHL P md ops Q S late f l a w→X f l a w)→∀ a0,a0=a→X fuel listed a0 w) :
  wpAnyHL P md ops Q S late fuel listed a w:=h _ (fun _ _ _ _ h=>h) (fun _ _ _ _ h=>h) a rfl
theorem tkL (i d:Nat) (v:Value) {fuel:Nat} {listed:Array Bool} {a:Act} {w:World} {op:Op} {ty:TypeId} {pos:String} {af:Array Edge} {gd:Option (Nat × Bool)} (hi:ops[i]? = some ⟨some d,op,ty,pos,af,gd⟩)
  (y:∀ w',S w'→(execOp a.eval ⟨some d,op,ty,pos,af,gd⟩).run P w'=.ok (.value v) w') (hS:S w)
  (h:wpAnyHL P md ops Q S late fuel (listed.setIfInBounds i true) (a.put (some d) v) w) (hlate:lateU md ops late i=true:=by kernel_rfl)
  (hs:Region.noSelect ops=true:=by kernel_rfl) (hf:Region.free md ops listed i=true:=by kernel_rfl) (hr:(Region.ready md ops listed).contains i=true:=by kernel_rfl)
  (hQ:∀ c a w,Q (.panic c) (a.put (some d) v) w→Q (.panic c) a w:=by exact fun _ _ _ h=>h) (hw:Region.wanted ⟨some d,op,ty,pos,af,gd⟩ (yielded ops a.tmps)=true:=by rfl) :
  wpAnyHL P md ops Q S late (fuel+1) listed a w:=wpAnyHL_take hlate hi hs hf hr hQ (.inl ⟨hw,y⟩) hS h
theorem rdL (i:Nat) {fuel:Nat} {listed:Array Bool} {a:Act} {w:World} {o:Oper} (ho:ops[i]? = some o)
  (h:∀ K':Act→World→Prop,Shut (∀ a w,(late i=false→S w)→wpAnyHL P md ops Q S late fuel (listed.setIfInBounds i true) a w→K' a w)→if Region.wanted o (yielded ops a.tmps)=true then Oper.wp P o a w K' Q else K' (a.put o.dst undef) w)
  (hr:Region.ready md ops listed=[i]:=by kernel_rfl):wpAnyHL P md ops Q S late (fuel+1) listed a w:=wpAnyHL_ready hr (by simp) (AllReadyHL.cons ho h AllReadyHL.nil)
theorem wp_region_held_late {id:Nat} {a:Act} {w:World} (hm:P.follows .mixedOrders=true)
  (h:wpAnyHL P .any ops Q S late ops.size (Array.replicate ops.size false) a w.drew):(Code.region id ops true).wp P Q a w :=
 wp_region_any hm (wpAny_of_late _ _ _ _ h)
end
end Go
namespace Go.Cold
open Go Go.RowKit Go.Proofs.YtjpoljlgkgmdkaaGreatDoor
instance:DecidableEq Attr:=fun a b =>
 if h:a.name=b.name∧a.value=b.value then isTrue (by cases a;cases b;simp_all) else isFalse (fun e=>h (by rw [e];exact ⟨rfl,rfl⟩))
structure Term4 where
 key:Int
 nm:ByteArray
 op:Int
 val:ByteArray
deriving DecidableEq
structure Draft where
 props:List Attr
 tags:List ByteArray
 links:List ByteArray
 run:List ByteArray
 load:List ByteArray
 nm:ByteArray
 prio:Int
 owner:ByteArray
 group:ByteArray
 mode:Int
 res:ByteArray
 calls:Int
 ticks:Int
 closed:List Term4
deriving DecidableEq
def ascL:List ByteArray→Bool
 | []=>true
 | [_]=>true
 | a :: b :: r=>strLt a b && ascL (b :: r)
theorem ascL_cons {a:ByteArray} {l:List ByteArray}:ascL (a :: l)=true↔(∀ b ∈ l,strLt a b=true)∧ascL l=true:=by
 induction l generalizing a with
 | nil=>simp [ascL]
 | cons b r ih =>
  rw [ascL,Bool.and_eq_true];constructor
  ·
   rintro ⟨A,B⟩
   refine ⟨fun c hc=>?_,B⟩;rcases List.mem_cons.1 hc with rfl | hc
   · exact A
   exact strLt_trans A ((ih.1 B).1 c hc)
  rintro ⟨A,B⟩;exact ⟨A b List.mem_cons_self,B⟩
theorem ascL_append {l r:List ByteArray}:ascL (l ++ r)=true↔ascL l=true∧ascL r=true∧∀ a ∈ l,∀ b ∈ r,strLt a b=true:=by
 induction l with
 | nil=>simp [ascL]
 | cons x l ih =>
  rw [List.cons_append,ascL_cons,ascL_cons,ih];constructor
  ·
   rintro ⟨A,C,D,B⟩
   exact ⟨⟨fun b hb=>A b (List.mem_append_left _ hb),C⟩,D,fun a ha b hb=>by
    rcases List.mem_cons.1 ha with rfl | ha
    · exact A b (List.mem_append_right _ hb)
    · exact B a ha b hb⟩
  rintro ⟨⟨A,C⟩,D,B⟩;exact ⟨fun b hb=>by
   rcases List.mem_append.1 hb with hb | hb
   · exact A b hb
   · exact B x List.mem_cons_self b hb,C,D,fun a ha b hb=>B a (List.mem_cons_of_mem _ ha) b hb⟩
theorem ascL_sub:∀ {l r:List ByteArray},r.Sublist l→ascL l=true→ascL r=true:=by
 intro l r hs;induction hs with
 | slnil=>intro h;exact h
 | cons a hs ih=>intro h;exact ih (ascL_cons.1 h).2
 | cons_cons a hs ih =>
  intro h;obtain ⟨A,B⟩:=ascL_cons.1 h;exact ascL_cons.2 ⟨fun b hb=>A b (hs.subset hb),ih B⟩
def posT (l:List ByteArray) (s:ByteArray):Nat:=(l.takeWhile fun a=>strLt a s).length
theorem posT_le (l:List ByteArray) (s:ByteArray):posT l s≤l.length:=(List.takeWhile_prefix _).length_le
def hasT (l:List ByteArray) (s:ByteArray):Bool:=match l[posT l s]? with | some a=>decide (a=s) | none=>false
theorem posT_spec {l:List ByteArray} (h:ascL l=true) (s:ByteArray):∀ (i:Nat) (a:ByteArray),l[i]? = some a→(strLt a s=true↔i<posT l s):=by
 induction l with
 | nil=>intro i a hi;simp at hi
 | cons x r ih =>
  obtain ⟨A,B⟩:=ascL_cons.1 h;intro i a hi;unfold posT;rw [List.takeWhile_cons];cases hx:strLt x s with
  | true =>
   simp only [if_true,List.length_cons];cases i with
   | zero=>simp at hi;subst hi;exact ⟨fun _=>by omega,fun _=>hx⟩
   | succ i =>
    simp at hi
    have:=ih B i a hi;unfold posT at this;rw [this];omega
  | false =>
   simp only [Bool.false_eq_true,if_false,List.length_nil,Nat.not_lt_zero,iff_false];intro ha;cases i with
   | zero=>simp at hi;subst hi;rw [hx] at ha;cases ha
   | succ i =>
    simp at hi
    have:=strLt_trans (A a (List.mem_of_getElem? hi)) ha;rw [hx] at this;cases this
theorem hasT_mem {l:List ByteArray} (h:ascL l=true) {s:ByteArray}:hasT l s=true↔s ∈ l:=by
 have D:=posT_spec h s;unfold hasT;constructor
 ·
  intro ht
  cases hx:l[posT l s]? with
  | none=>rw [hx] at ht;cases ht
  | some a =>
   rw [hx] at ht;have:a=s:=of_decide_eq_true ht;rw [← this];exact List.mem_of_getElem? hx
 intro hm;obtain ⟨i,B,A⟩:=List.getElem_of_mem hm;have I:¬ i<posT l s:=fun hlt=>by
  have:=(D i _ (List.getElem?_eq_getElem B)).2 hlt;rw [A,strLt_irr] at this;cases this
 have E:posT l s=i:=by
  refine Nat.le_antisymm (by omega) (Nat.not_lt.1 fun hlt=>?_);have H:posT l s<l.length:=by omega
  have G:=List.getElem?_eq_getElem H;have F:strLt l[posT l s] s=false:=by
   cases hc:strLt l[posT l s] s with
   | false=>rfl
   | true=>have:=(D _ _ G).1 hc;omega
  have C:strLt l[posT l s] l[i]=true:=by
   have:=h;rw [← List.take_append_drop i l,List.drop_eq_getElem_cons B] at this;refine (ascL_append.1 this).2.2 _ ?_ _ List.mem_cons_self;rw [List.mem_take_iff_getElem];exact ⟨posT l s,by omega,rfl⟩
  rw [A,F] at C;cases C
 rw [E,List.getElem?_eq_getElem B,A];exact decide_eq_true rfl
def putT (l:List ByteArray) (s:ByteArray) (most:Nat):List ByteArray :=
 if hasT l s=true∨most≤l.length then l else l.take (posT l s) ++ s :: l.drop (posT l s)
def withoutT (l:List ByteArray) (s:ByteArray):List ByteArray:=l.filter fun x=>decide (x≠s)
theorem putT_len (l:List ByteArray) (s:ByteArray) (most:Nat) (h:l.length≤most):(putT l s most).length≤most:=by
 have A:=posT_le l s;unfold putT;split
 · exact h
 rename_i hn
 rw [not_or] at hn;rw [List.length_append,List.length_cons,List.length_take,List.length_drop];omega
theorem putT_mem {l:List ByteArray} {s:ByteArray} {most:Nat} {x:ByteArray} (h:x ∈ putT l s most):x=s∨x ∈ l:=by
 unfold putT at h;split at h
 · exact .inr h
 rw [List.mem_append,List.mem_cons] at h;rcases h with h | h | h
 · exact .inr (List.mem_of_mem_take h)
 · exact .inl h
 exact .inr (List.mem_of_mem_drop h)
theorem putT_asc {l:List ByteArray} (h:ascL l=true) (s:ByteArray) (most:Nat):ascL (putT l s most)=true:=by
 have E:=posT_spec h s;have I:=posT_le l s;unfold putT;split
 · exact h
 rename_i hn
 rw [not_or] at hn;have D:=h;rw [← List.take_append_drop (posT l s) l] at D;obtain ⟨F,G,H⟩:=ascL_append.1 D;have C:∀ a ∈ l.take (posT l s),strLt a s=true:=fun a ha=>by
  obtain ⟨i,B,rfl⟩:=List.getElem_of_mem ha;rw [List.length_take] at B;exact (E i _ (by rw [List.getElem_take];exact List.getElem?_eq_getElem (by omega))).2 (by omega)
 refine ascL_append.2 ⟨F,ascL_cons.2 ⟨fun b hb=>?_,G⟩,fun a ha b hb=>?_⟩
 ·
  have A:strLt b s=false:=by
   obtain ⟨i,B,rfl⟩:=List.getElem_of_mem hb;rw [List.length_drop] at B;cases hc:strLt (l.drop (posT l s))[i] s with
   | false=>rfl
   | true =>
    have:=(E (posT l s+i) _ (by rw [List.getElem_drop];exact List.getElem?_eq_getElem (by omega))).1 hc;omega
  cases hc:strLt s b with
  | true=>rfl
  | false =>
   exfalso
   have:=strLt_tri hc A;exact hn.1 ((hasT_mem h).2 (by rw [this];exact List.mem_of_mem_drop hb))
 rcases List.mem_cons.1 hb with rfl | hb
 · exact C a ha
 exact H a ha b hb
theorem without_asc {l:List ByteArray} (h:ascL l=true) (s:ByteArray):ascL (withoutT l s)=true:=ascL_sub List.filter_sublist h
theorem without_len (l:List ByteArray) (s:ByteArray):(withoutT l s).length≤l.length:=List.length_filter_le _ _
theorem without_mem {l:List ByteArray} {s x:ByteArray} (h:x ∈ withoutT l s):x ∈ l:=(List.mem_filter.1 h).1
def octGo:Int→List UInt8→Option Int
 | n,[]=>some n
 | n,x :: r=>if 48≤x.toNat∧x.toNat≤55 then octGo (8 * n+((x.toNat:Int) - 48)) r else none
def octT (s:ByteArray):Option Int:=match octGo 0 s.data.toList with | some n=>if 1≤s.size∧s.size≤4 then some n else none | none=>none
theorem octGo_bound:∀ (l:List UInt8) (n m:Int),0≤n→octGo n l=some m→0≤m∧m<(n+1) * 8 ^ l.length
 | [],n,m,hn,h=>by
  simp only [octGo,Option.some.injEq] at h;subst h;simp;omega
 | x :: r,n,m,hn,h=>by
  rw [octGo] at h;split at h
  ·
   rename_i hx
   obtain ⟨h1,h2⟩:=octGo_bound r _ m (by omega) h;refine ⟨h1,Int.lt_of_lt_of_le h2 ?_⟩;rw [List.length_cons,Int.pow_succ];have hp:(0:Int)<8 ^ r.length:=Int.pow_pos (by decide);have:(8 * n+((x.toNat:Int) - 48)+1)≤(n+1) * 8:=by omega
   calc (8 * n+((x.toNat:Int) - 48)+1) * 8 ^ r.length≤((n+1) * 8) * 8 ^ r.length:=Int.mul_le_mul_of_nonneg_right this (Int.le_of_lt hp)
    _=(n+1) * (8 ^ r.length * 8):=by rw [Int.mul_assoc,Int.mul_comm 8]
  cases h
theorem oct_range {s:ByteArray} {n:Int} (h:octT s=some n):0≤n∧n≤4095:=by
 unfold octT at h;cases hg:octGo 0 s.data.toList with
 | none=>rw [hg] at h;cases h
 | some m =>
  rw [hg] at h;simp only at h;split at h
  ·
   rename_i hs
   obtain rfl:=Option.some.inj h;obtain ⟨C,B⟩:=octGo_bound _ _ _ (by decide) hg;refine ⟨C,?_⟩;rw [ba_size] at B;have A:s.size=1∨s.size=2∨s.size=3∨s.size=4:=by omega
   rcases A with A | A | A | A <;> rw [A] at B <;> simp at B <;> omega
  cases h
def prioT (s:ByteArray):Option Int:=((List.range 2001).map fun (k:Nat)=>(k:Int) - 1000).find? fun n=>decide (itoaT n=s)
theorem prio_range {s:ByteArray} {n:Int} (h:prioT s=some n) : -1000≤n∧n≤1000∧itoaT n=s:=by
 unfold prioT at h;have B:=List.mem_of_find?_eq_some h;have C:=List.find?_some h;obtain ⟨k,A,rfl⟩:=List.mem_map.1 B;rw [List.mem_range] at A;exact ⟨by omega,by omega,of_decide_eq_true C⟩
def wordsT (s:ByteArray):List ByteArray:=((splitOn 32 s.data.toList).filter fun x=>!x.isEmpty).map toB
def setD (d:Draft) (k v:ByteArray):Draft :=
 if (baseKeys.any fun b=>decide (k=b))=true∨textB v=false then d
 else if v.toList.isEmpty=false∧getA d.props k=none∧64≤d.props.length then d
 else { d with props:=setA d.props k v }
def fullT (v:ByteArray):Bool:=!v.toList.isEmpty && textB v
def linkGo (op:Int):List ByteArray→List ByteArray→List ByteArray
 | l,[]=>l
 | l,x :: r=>linkGo op (match cleanOf x with | none=>l | some s=>if op=5 then withoutT l s else putT l s 16) r
def asgD (d:Draft) (t:Term4) (v:ByteArray):Draft :=
  if t.key=6 then
    (if t.op=4∧v.toList.isEmpty=true then d
     else if t.op=4∧((getA d.props t.nm).getD ByteArray.empty).toList.isEmpty=false then setD d t.nm (cutT (((getA d.props t.nm).getD ByteArray.empty ++ ⟨#[32]⟩) ++ v))
     else setD d t.nm v)
  else if t.key=7 then
    (if validB v=false then d
     else if t.op=3 then { d with tags:=[v] }
     else if t.op=4 then { d with tags:=putT d.tags v 16 }
     else { d with tags:=withoutT d.tags v })
  else if t.key=15 then (if ifaceB v then { d with nm:=v } else d)
  else if t.key=16 then { d with links:=linkGo t.op (if t.op=3∨t.op=6 then [] else d.links) (wordsT v) }
  else if t.key=17 then (if validB v then { d with owner:=v } else d)
  else if t.key=18 then (if validB v then { d with group:=v } else d)
  else if t.key=19 then (match octT v with | some n=>{ d with mode:=n } | none=>d)
  else if t.key=20 then { d with run:=(if fullT v=true∧(if t.op≠4 then [] else d.run).length<16 then (if t.op≠4 then [] else d.run) ++ [v] else (if t.op≠4 then [] else d.run)) }
  else if t.key=21 then (if fullT v then { d with load:=putT d.load v 16 } else d)
  else if t.key=22 then (match prioT v with | some n=>{ d with prio:=n } | none=>d)
  else d
def closedB (d:Draft) (t:Term4):Bool:=d.closed.any fun c=>decide (c.key=t.key) && decide (c.nm=t.nm)
def closeD (d:Draft) (t:Term4):Draft:=if t.op=6 then { d with closed:=d.closed ++ [⟨t.key,t.nm,0,ByteArray.empty⟩] } else d
def applyD (d:Draft) (t:Term4) (v:ByteArray):Draft:=if closedB d t then d else closeD (asgD d t v) t
def importD (d:Draft):List Attr→Draft
 | []=>d
 | a :: r=>importD (if keyB a.name=true∧a.value.toList.isEmpty=false then setD d a.name a.value else d) r
def beginD (base:List Attr):Draft:=⟨base,[],[],[],[],ByteArray.empty,0,⟨#[114,111,111,116]⟩,⟨#[114,111,111,116]⟩,384,ByteArray.empty,0,0,[]⟩
structure SoundD (d:Draft):Prop where
 ps:sortedA d.props=true
 pl:d.props.length≤64
 pg:∀ a ∈ d.props,goodA a
 ts:ascL d.tags=true
 tl:d.tags.length≤16
 tv:∀ x ∈ d.tags,validB x=true
 ls:ascL d.links=true
 ll:d.links.length≤16
 lv:∀ x ∈ d.links,linkB x=true
 os:ascL d.load=true
 ol:d.load.length≤16
 ov:∀ x ∈ d.load,fullT x=true
 rl:d.run.length≤16
 rv:∀ x ∈ d.run,fullT x=true
 nm:d.nm.toList.isEmpty=true∨ifaceB d.nm=true
 pr : -1000≤d.prio∧d.prio≤1000
 ow:validB d.owner=true
 gr:validB d.group=true
 mo:0≤d.mode∧d.mode≤4095
 rs:textB d.res=true
theorem setD_sound {d:Draft} (h:SoundD d) {k v:ByteArray} (hk:keyB k=true):SoundD (setD d k v):=by
 unfold setD;split
 · exact h
 rename_i h1
 rw [not_or] at h1;split
 · exact h
 rename_i h2
 have L:textB v=true:=by cases hq:textB v with | true=>rfl | false=>exact absurd hq h1.2
 refine { h with ps:=setA_sorted h.ps _ _,pl:=?_,pg:=?_ }
 ·
  show (setA d.props k v).length≤64
  have S:=setA_len d.props k v;have T:=h.pl;by_cases hfull:d.props.length≤63
  · omega
  have P:d.props.length=64:=by omega
  cases hv:v.toList.isEmpty with
  | true =>
   unfold setA;rw [hv];have:=setGo_done k v d.props;omega
  | false =>
   cases A:getA d.props k with
   | none=>exact absurd ⟨hv,A,by omega⟩ h2
   | some u =>
    -- the name is there: it is exchanged
    rw [set_put h.ps];unfold putL;have B:atA d.props k=true:=by
     have H:=getA_mem A;have N:=posA_spec h.ps k;unfold atA;obtain ⟨i,J,C⟩:=List.getElem_of_mem H;have R:¬ i<posA d.props k:=fun D=>by
      have:=(N i _ (List.getElem?_eq_getElem J)).2 D;rw [C] at this;have G:strLt k k=true:=this;rw [strLt_irr] at G;cases G
     have O:posA d.props k=i:=by
      refine Nat.le_antisymm (by omega) (Nat.not_lt.1 fun D=>?_);have K:posA d.props k<d.props.length:=by omega
      have I:=List.getElem?_eq_getElem K;have G:strLt d.props[posA d.props k].name k=false:=by
       cases hc:strLt d.props[posA d.props k].name k with
       | false=>rfl
       | true=>have:=(N _ _ I).1 hc;omega
      have M:strLt d.props[posA d.props k].name d.props[i].name=true:=by
       have F:=h.ps;rw [← List.take_append_drop i d.props,List.drop_eq_getElem_cons J] at F;refine (sortedA_append.1 F).2.2 _ ?_ _ List.mem_cons_self;rw [List.mem_take_iff_getElem];exact ⟨posA d.props k,by omega,rfl⟩
      rw [C,G] at M;cases M
     rw [O,List.getElem?_eq_getElem J,C];exact decide_eq_true rfl
    rw [B,if_pos rfl,hv];have Q:=posA_le d.props k;have D:posA d.props k<d.props.length:=by
     unfold atA at B;cases hx:d.props[posA d.props k]? with
     | none=>rw [hx] at B;cases B
     | some a=>exact (List.getElem?_eq_some_iff.1 hx).1
    simp only [Bool.false_eq_true,if_false,List.length_append,List.length_take,List.length_drop,List.length_cons,List.length_nil];omega
 intro a I;have A:=getA_of (setA_sorted h.ps k v) I;rw [getA_set h.ps] at A;by_cases C:a.name=k
 ·
  rw [if_pos C] at A
  unfold valO at A;split at A
  · cases A
  rename_i hv
  have E:=Option.some.inj A;exact ⟨by rw [C];exact hk,by rw [← E];exact L,by rw [← E];simpa using hv⟩
 rw [if_neg C] at A;have H:=getA_mem A;have:(⟨a.name,a.value⟩:Attr)=a:=rfl;rw [this] at H;exact h.pg a H
theorem clean_linkB {s t:ByteArray} (h:cleanOf s=some t):linkB t=true:=by
 unfold cleanOf at h;split at h
 · rename_i hl;rw [← Option.some.inj h];exact hl
 cases h
theorem linkGo_sound (op:Int):∀ (ws:List ByteArray) {l:List ByteArray},ascL l=true→l.length≤16→(∀ x ∈ l,linkB x=true)→ascL (linkGo op l ws)=true∧(linkGo op l ws).length≤16∧∀ x ∈ linkGo op l ws,linkB x=true
 | [],l,h1,h2,h3=>⟨h1,h2,h3⟩
 | w :: ws,l,h1,h2,h3=>by
  rw [linkGo];cases hc:cleanOf w with
  | none=>exact linkGo_sound op ws h1 h2 h3
  | some s =>
   simp only
   split
   · exact linkGo_sound op ws (without_asc h1 s) (Nat.le_trans (without_len l s) h2) (fun x hx=>h3 x (without_mem hx))
   refine linkGo_sound op ws (putT_asc h1 s 16) (putT_len l s 16 h2) (fun x hx=>?_);rcases putT_mem hx with rfl | hx
   · exact clean_linkB hc
   exact h3 x hx
theorem asg_sound {d:Draft} (h:SoundD d) {t:Term4} (ht:t.key=6→keyB t.nm=true) (v:ByteArray):SoundD (asgD d t v):=by
 unfold asgD;by_cases k:t.key=6
 ·
  rw [if_pos k]
  by_cases c1:t.op=4∧v.toList.isEmpty=true
  · rw [if_pos c1];exact h
  rw [if_neg c1];by_cases c2:t.op=4∧((getA d.props t.nm).getD ByteArray.empty).toList.isEmpty=false
  · rw [if_pos c2];exact setD_sound h (ht k)
  rw [if_neg c2];exact setD_sound h (ht k)
 rw [if_neg k];clear k;by_cases k:t.key=7
 ·
  rw [if_pos k]
  by_cases hv:validB v=false
  · rw [if_pos hv];exact h
  rw [if_neg hv];have A:validB v=true:=by simpa using hv
  by_cases c2:t.op=3
  ·
   rw [if_pos c2]
   exact { h with ts:=rfl,tl:=(by show (1:Nat)≤16;omega),tv:=(fun x hx=>by rw [List.mem_singleton] at hx;rw [hx];exact A) }
  rw [if_neg c2];by_cases c3:t.op=4
  ·
   rw [if_pos c3]
   exact { h with ts:=putT_asc h.ts v 16,tl:=putT_len _ v 16 h.tl,tv:=(fun x hx=>by
    rcases putT_mem hx with rfl | hx
    · exact A
    · exact h.tv x hx) }
  rw [if_neg c3];exact { h with ts:=without_asc h.ts v,tl:=Nat.le_trans (without_len _ v) h.tl,tv:=fun x hx=>h.tv x (without_mem hx) }
 rw [if_neg k];clear k;by_cases k:t.key=15
 ·
  rw [if_pos k]
  cases hv:ifaceB v with
  | true=>exact { h with nm:=.inr hv }
  | false=>exact h
 rw [if_neg k];clear k;by_cases k:t.key=16
 ·
  rw [if_pos k]
  have E:ascL (if t.op=3∨t.op=6 then [] else d.links)=true∧(if t.op=3∨t.op=6 then [] else d.links).length≤16∧∀ x ∈ (if t.op=3∨t.op=6 then [] else d.links),linkB x=true:=by
   by_cases c:t.op=3∨t.op=6
   · rw [if_pos c];exact ⟨rfl,by simp,fun x hx=>by cases hx⟩
   rw [if_neg c];exact ⟨h.ls,h.ll,h.lv⟩
  obtain ⟨C,D,F⟩:=linkGo_sound t.op (wordsT v) E.1 E.2.1 E.2.2;exact { h with ls:=C,ll:=D,lv:=F }
 rw [if_neg k];clear k;by_cases k:t.key=17
 ·
  rw [if_pos k]
  cases hv:validB v with
  | true=>exact { h with ow:=hv }
  | false=>exact h
 rw [if_neg k];clear k;by_cases k:t.key=18
 ·
  rw [if_pos k]
  cases hv:validB v with
  | true=>exact { h with gr:=hv }
  | false=>exact h
 rw [if_neg k];clear k;by_cases k:t.key=19
 ·
  rw [if_pos k]
  cases ho:octT v with
  | none=>exact h
  | some n=>exact { h with mo:=oct_range ho }
 rw [if_neg k];clear k;by_cases k:t.key=20
 ·
  rw [if_pos k]
  have B:(if t.op≠4 then [] else d.run).length≤16∧∀ x ∈ (if t.op≠4 then [] else d.run),fullT x=true:=by
   by_cases c:t.op≠4
   · rw [if_pos c];exact ⟨by simp,fun x hx=>by cases hx⟩
   rw [if_neg c];exact ⟨h.rl,h.rv⟩
  obtain ⟨R,hR⟩:∃ R,(if t.op≠4 then [] else d.run)=R:=⟨_,rfl⟩;rw [hR] at B ⊢;by_cases hf:fullT v=true∧R.length<16
  ·
   rw [if_pos hf]
   refine { h with rl:=?_,rv:=(fun x hx=>?_) }
   ·
    show (R ++ [v]).length≤16
    rw [List.length_append,List.length_singleton];omega
   rcases List.mem_append.1 hx with hx | hx
   · exact B.2 x hx
   rw [List.mem_singleton] at hx;rw [hx];exact hf.1
  rw [if_neg hf];exact { h with rl:=B.1,rv:=B.2 }
 rw [if_neg k];clear k;by_cases k:t.key=21
 ·
  rw [if_pos k]
  cases hf:fullT v with
  | false=>exact h
  | true =>
   exact { h with os:=putT_asc h.os v 16,ol:=putT_len _ v 16 h.ol,ov:=(fun x hx=>by
    rcases putT_mem hx with rfl | hx
    · exact hf
    · exact h.ov x hx) }
 rw [if_neg k];clear k;by_cases k:t.key=22
 ·
  rw [if_pos k]
  cases hp:prioT v with
  | none=>exact h
  | some n=>obtain ⟨C,D,-⟩:=prio_range hp;exact { h with pr:=⟨C,D⟩ }
 rw [if_neg k];exact h
theorem apply_sound {d:Draft} (h:SoundD d) {t:Term4} (ht:t.key=6→keyB t.nm=true) (v:ByteArray):SoundD (applyD d t v):=by
 unfold applyD;split
 · exact h
 unfold closeD;split
 · exact { asg_sound h ht v with }
 exact asg_sound h ht v
theorem import_sound:∀ (l:List Attr) {d:Draft},SoundD d→SoundD (importD d l)
 | [],_,h=>h
 | a :: r,d,h=>by
  rw [importD];split
  · rename_i hk;exact import_sound r (setD_sound h hk.1)
  exact import_sound r h
theorem begin_sound {base:List Attr} (h1:sortedA base=true) (h2:base.length≤64) (h3:∀ a ∈ base,goodA a):SoundD (beginD base) where
 ps:=h1
 pl:=h2
 pg:=h3
 ts:=rfl
 tl:=by show (0:Nat)≤16;omega
 tv x hx:=by cases hx
 ls:=rfl
 ll:=by show (0:Nat)≤16;omega
 lv x hx:=by cases hx
 os:=rfl
 ol:=by show (0:Nat)≤16;omega
 ov x hx:=by cases hx
 rl:=by show (0:Nat)≤16;omega
 rv x hx:=by cases hx
 nm:=.inl (by show ByteArray.empty.toList.isEmpty=true;decide +kernel)
 pr:=by show -1000≤(0:Int)∧(0:Int)≤1000;omega
 ow:=by show validB ⟨#[114,111,111,116]⟩=true;decide +kernel
 gr:=by show validB ⟨#[114,111,111,116]⟩=true;decide +kernel
 mo:=by show 0≤(384:Int)∧(384:Int)≤4095;omega
 rs:=by show textB ByteArray.empty=true;decide +kernel
theorem asg_closed (d:Draft) (t:Term4) (v:ByteArray):(asgD d t v).closed=d.closed:=by
 have A:∀ k v,(setD d k v).closed=d.closed:=fun k v=>by
  unfold setD;split
  · rfl
  split <;> rfl
 unfold asgD;by_cases k:t.key=6
 ·
  rw [if_pos k]
  by_cases c1:t.op=4∧v.toList.isEmpty=true
  · rw [if_pos c1]
  rw [if_neg c1];by_cases c2:t.op=4∧((getA d.props t.nm).getD ByteArray.empty).toList.isEmpty=false
  · rw [if_pos c2];exact A _ _
  rw [if_neg c2];exact A _ _
 rw [if_neg k];clear k;by_cases k:t.key=7
 ·
  rw [if_pos k]
  by_cases c1:validB v=false
  · rw [if_pos c1]
  rw [if_neg c1];by_cases c2:t.op=3
  · rw [if_pos c2]
  rw [if_neg c2];by_cases c3:t.op=4
  · rw [if_pos c3]
  rw [if_neg c3]
 rw [if_neg k];clear k;by_cases k:t.key=15
 ·
  rw [if_pos k]
  cases ifaceB v <;> rfl
 rw [if_neg k];clear k;by_cases k:t.key=16
 · rw [if_pos k]
 rw [if_neg k];clear k;by_cases k:t.key=17
 ·
  rw [if_pos k]
  cases validB v <;> rfl
 rw [if_neg k];clear k;by_cases k:t.key=18
 ·
  rw [if_pos k]
  cases validB v <;> rfl
 rw [if_neg k];clear k;by_cases k:t.key=19
 ·
  rw [if_pos k]
  cases octT v <;> rfl
 rw [if_neg k];clear k;by_cases k:t.key=20
 · rw [if_pos k]
 rw [if_neg k];clear k;by_cases k:t.key=21
 ·
  rw [if_pos k]
  cases fullT v <;> rfl
 rw [if_neg k];clear k;by_cases k:t.key=22
 ·
  rw [if_pos k]
  cases prioT v <;> rfl
 rw [if_neg k]
theorem dec_space (s:ByteArray) (pos:Nat) (h:pos<s.size):((Utf8.decode s pos).1=32→(s.get! pos).toNat=32∧(Utf8.decode s pos).2=1)∧((Utf8.decode s pos).1≠32→pos+(Utf8.decode s pos).2≤s.size∧∀ k,k<(Utf8.decode s pos).2→(s.get! (pos+k)).toNat≠32):=by
 unfold Utf8.decode Utf8.runeError;simp only [Nat.add_zero];by_cases h0:(s.get! pos).toNat<128
 ·
  rw [if_pos h0]
  refine ⟨fun e=>⟨e,rfl⟩,fun e=>⟨(by show pos+1≤_;omega),fun k A=>?_⟩⟩;have:k=0:=by have A:k<1:=A;omega
  rw [this,Nat.add_zero];exact e
 rw [if_neg h0];have B:(((65533,1):Nat × Nat).1=32→(s.get! pos).toNat=32∧((65533,1):Nat × Nat).2=1)∧(((65533,1):Nat × Nat).1≠32→pos+((65533,1):Nat × Nat).2≤s.size∧∀ k,k<((65533,1):Nat × Nat).2→(s.get! (pos+k)).toNat≠32):=by
  refine ⟨(fun e=>by cases e),fun _=>⟨(by show pos+1≤_;omega),fun k A=>?_⟩⟩;have:k=0:=by have A:k<1:=A;omega
  rw [this,Nat.add_zero];omega
 split
 ·
  rename_i hc
  simp only [Bool.and_eq_true,decide_eq_true_eq,beq_iff_eq] at hc;split
  ·
   rename_i hcc
   refine ⟨fun e=>?_,fun _=>⟨(by show pos+2≤_;omega),fun k A=>?_⟩⟩
   ·
    have e:(s.get! pos).toNat % 32 * 64+(s.get! (pos+1)).toNat % 64=32:=e
    omega
   have A:k<2:=A;rcases (show k=0∨k=1 by omega) with rfl | rfl
   · rw [Nat.add_zero];omega
   omega
  exact B
 split
 ·
  rename_i hc
  simp only [Bool.and_eq_true,decide_eq_true_eq,beq_iff_eq] at hc;split
  ·
   rename_i hcc
   simp only [Bool.and_eq_true,decide_eq_true_eq] at hcc;refine ⟨fun e=>?_,fun _=>⟨(by show pos+3≤_;omega),fun k A=>?_⟩⟩
   ·
    have e:(s.get! pos).toNat % 16 * 4096+(s.get! (pos+1)).toNat % 64 * 64+(s.get! (pos+2)).toNat % 64=32:=e
    omega
   have A:k<3:=A;rcases (show k=0∨k=1∨k=2 by omega) with rfl | rfl | rfl
   · rw [Nat.add_zero];omega
   · omega
   omega
  exact B
 split
 ·
  rename_i hc
  simp only [Bool.and_eq_true,decide_eq_true_eq,beq_iff_eq] at hc;split
  ·
   rename_i hcc
   simp only [Bool.and_eq_true,decide_eq_true_eq] at hcc;refine ⟨fun e=>?_,fun _=>⟨(by show pos+4≤_;omega),fun k A=>?_⟩⟩
   ·
    have e:(s.get! pos).toNat % 8 * 262144+(s.get! (pos+1)).toNat % 64 * 4096+(s.get! (pos+2)).toNat % 64 * 64+(s.get! (pos+3)).toNat % 64=32:=e
    omega
   have A:k<4:=A;rcases (show k=0∨k=1∨k=2∨k=3 by omega) with rfl | rfl | rfl | rfl
   · rw [Nat.add_zero];omega
   · omega
   · omega
   omega
  exact B
 exact B
def wordsG (cur l:List UInt8):List ByteArray:=((splitOn 32 (cur ++ l)).filter fun x=>!x.isEmpty).map toB
theorem split_app:∀ {A:List UInt8} {l:List UInt8},(∀ x ∈ A,x≠32)→splitOn 32 (A ++ 32 :: l)=A :: splitOn 32 l
 | [],l,_=>by rw [List.nil_append,splitOn,if_pos rfl]
 | a :: A,l,h=>by
  have ha:=h a List.mem_cons_self;rw [List.cons_append,splitOn,if_neg ha,split_app (fun x hx=>h x (List.mem_cons_of_mem _ hx))]
theorem split_all:∀ {l:List UInt8},(∀ x ∈ l,x≠32)→splitOn 32 l=[l]
 | [],_=>rfl
 | b :: l,h=>by
  have hb:=h b List.mem_cons_self;rw [splitOn,split_all (fun x hx=>h x (List.mem_cons_of_mem _ hx))];simp [hb]
theorem wordsG_space {cur l:List UInt8} (h:∀ x ∈ cur,x≠32):wordsG cur (32 :: l)=(if cur.isEmpty then [] else [toB cur]) ++ wordsG [] l:=by
 unfold wordsG;rw [split_app h,List.filter_cons,List.nil_append];cases cur <;> simp
theorem wordsG_end {cur:List UInt8} (h:∀ x ∈ cur,x≠32):wordsG cur []=(if cur.isEmpty then [] else [toB cur]):=by
 unfold wordsG;rw [List.append_nil,split_all h,List.filter_cons];cases cur <;> simp
theorem wordsG_more (cur c l:List UInt8):wordsG cur (c ++ l)=wordsG (cur ++ c) l:=by unfold wordsG;rw [List.append_assoc]
def midL (s:ByteArray) (a b:Nat):List UInt8:=(s.data.toList.drop a).take (b - a)
theorem mid_extract (s:ByteArray) (a b:Nat):s.extract a b=toB (midL s a b):=by
 apply ba_ext
 rw [toB_data,ByteArray.data_extract,Array.toList_extract,List.extract_eq_take_drop];rfl
theorem mid_app {s:ByteArray} {a b c:Nat} (h1:a≤b) (h2:b≤c):midL s a b ++ midL s b c=midL s a c:=by
 unfold midL;rw [show c - a=(b - a)+(c - b) by omega,List.take_add,List.drop_drop,show a+(b - a)=b by omega]
theorem mid_rest {s:ByteArray} {a b:Nat} (h:a≤b):midL s a b ++ s.data.toList.drop b=s.data.toList.drop a:=by
 unfold midL;conv=>rhs;rw [← List.take_append_drop (b - a) (s.data.toList.drop a)]
 rw [List.drop_drop,show a+(b - a)=b by omega]
theorem mid_len {s:ByteArray} {a b:Nat} (h1:a≤b) (h2:b≤s.size):(midL s a b).length=b - a:=by
 unfold midL;rw [List.length_take,List.length_drop,ba_size];omega
theorem mid_get {s:ByteArray} {a b:Nat} (h2:b≤s.size) {x:UInt8} (hx:x ∈ midL s a b):∃ k,a+k<b∧x=s.get! (a+k):=by
 obtain ⟨k,A⟩:=List.getElem?_of_mem hx;unfold midL at A;rw [List.getElem?_take] at A;split at A
 case isFalse=>cases A
 rename_i hkb
 rw [List.getElem?_drop] at A;obtain ⟨D,C⟩:=List.getElem?_eq_some_iff.1 A;refine ⟨k,by omega,?_⟩;have B:a+k<s.data.size:=by rw [Array.length_toList] at D;exact D
 show x=s.data[a+k]!
 rw [getElem!_pos s.data (a+k) B,← C,Array.getElem_toList]
theorem spans_sp {p:Nat→Bool} {s:ByteArray} {f pos:Nat} {acc:List (Nat × Nat)} (h:pos<s.size) (hp:p (Utf8.decode s pos).1=true) :
  (Lib.spansFromP p s (f+1) pos none acc=Lib.spansFromP p s f (pos+(Utf8.decode s pos).2) none acc)∧∀ a,Lib.spansFromP p s (f+1) pos (some a) acc=Lib.spansFromP p s f (pos+(Utf8.decode s pos).2) none (acc ++ [(a,pos)]):=by
 constructor
 · simp only [Lib.spansFromP,if_pos h,if_pos hp]
 intro a;simp only [Lib.spansFromP,if_pos h,if_pos hp]
theorem spans_no {p:Nat→Bool} {s:ByteArray} {f pos:Nat} {acc:List (Nat × Nat)} (h:pos<s.size) (hp:¬ p (Utf8.decode s pos).1=true) :
  (Lib.spansFromP p s (f+1) pos none acc=Lib.spansFromP p s f (pos+(Utf8.decode s pos).2) (some pos) acc)∧∀ a,Lib.spansFromP p s (f+1) pos (some a) acc=Lib.spansFromP p s f (pos+(Utf8.decode s pos).2) (some a) acc:=by
 constructor
 · simp only [Lib.spansFromP,if_pos h,if_neg hp]
 intro a;simp only [Lib.spansFromP,if_pos h,if_neg hp]
theorem spans_words (s:ByteArray):∀ (f pos:Nat) (st:Option Nat) (acc:List (Nat × Nat)),pos≤s.size→s.size - pos≤f→(∀ a,st=some a→a<pos∧∀ x ∈ midL s a pos,x≠32)→
  (Lib.closeSpans s (Lib.spansFromP (fun r=>decide (r=32)) s f pos st acc)).map (fun x=>s.extract x.1 x.2)=acc.map (fun x=>s.extract x.1 x.2) ++ wordsG (match st with | some a=>midL s a pos | none=>[]) (s.data.toList.drop pos)
 | 0,pos,st,acc,hp,hf,hst=>by
  have hps:pos=s.size:=by omega
  rw [show Lib.spansFromP (fun r=>decide (r=32)) s 0 pos st acc=(acc,st) from rfl];subst hps;rw [List.drop_of_length_le (by rw [ba_size];exact Nat.le_refl _)];cases st with
  | none=>unfold Lib.closeSpans;rw [wordsG_end (fun x hx=>by cases hx)];simp
  | some a =>
   obtain ⟨F,G⟩:=hst a rfl;unfold Lib.closeSpans;rw [wordsG_end G];have D:(midL s a s.size).isEmpty=false:=by
    have:=mid_len (s:=s) (Nat.le_of_lt F) (Nat.le_refl _);cases hq:midL s a s.size with
    | nil=>rw [hq] at this;simp at this;omega
    | cons x r=>rfl
   rw [D];simp [mid_extract]
 | f+1,pos,st,acc,hp,hf,hst=>by
  by_cases hlt:pos<s.size
  ·
   obtain ⟨O,N⟩:=dec_space s pos hlt
   have T:=Lib.width_pos s pos;by_cases he:(Utf8.decode s pos).1=32
   ·
    obtain ⟨J,R⟩:=O he
    obtain ⟨K,L⟩:=spans_sp (p:=fun r=>decide (r=32)) (f:=f) (acc:=acc) hlt (decide_eq_true he);rw [R] at K L;have C:s.data.toList.drop pos=32 :: s.data.toList.drop (pos+1):=by
     have M:pos<s.data.toList.length:=by rw [ba_size];exact hlt
     rw [List.drop_eq_getElem_cons M];congr 1
     have H:pos<s.data.size:=by rw [Array.length_toList] at M;exact M
     have J:(s.data[pos]!).toNat=32:=J;rw [getElem!_pos s.data pos H] at J;rw [Array.getElem_toList];exact UInt8.toNat_inj.1 J
    rw [C];cases st with
    | none =>
     rw [K,spans_words s f (pos+1) none acc (by omega) (by omega) (fun a h=>by cases h)];rw [wordsG_space (fun x hx=>by cases hx)];rfl
    | some a =>
     obtain ⟨F,G⟩:=hst a rfl;rw [L a,spans_words s f (pos+1) none _ (by omega) (by omega) (fun a h=>by cases h)];rw [wordsG_space G];have D:(midL s a pos).isEmpty=false:=by
      have:=mid_len (s:=s) (Nat.le_of_lt F) hp;cases hq:midL s a pos with
      | nil=>rw [hq] at this;simp at this;omega
      | cons x r=>rfl
     rw [D];simp [mid_extract]
   obtain ⟨A,B⟩:=N he;obtain ⟨K,L⟩:=spans_no (p:=fun r=>decide (r=32)) (f:=f) (acc:=acc) hlt (by simpa using he);have Q:∀ x ∈ midL s pos (pos+(Utf8.decode s pos).2),x≠32:=fun x hx e=>by
    obtain ⟨k,S,P⟩:=mid_get A hx;apply B k (by omega)
    rw [← P,e];rfl
   have E:s.data.toList.drop pos=midL s pos (pos+(Utf8.decode s pos).2) ++ s.data.toList.drop (pos+(Utf8.decode s pos).2):=(mid_rest (by omega)).symm;rw [E,wordsG_more];cases st with
   | none =>
    rw [K,spans_words s f _ (some pos) acc A (by omega) (fun a h=>by cases h;exact ⟨by omega,Q⟩)];rfl
   | some a =>
    obtain ⟨F,G⟩:=hst a rfl;have I:=mid_app (s:=s) (Nat.le_of_lt F) (Nat.le_add_right pos (Utf8.decode s pos).2);rw [L a,spans_words s f _ (some a) acc A (by omega) (fun b h=>by
     cases h
     refine ⟨by omega,fun x hx=>?_⟩;rw [← I,List.mem_append] at hx;exact hx.elim (G x) (Q x))]
    show _ ++ wordsG (midL s a _) _=_ ++ wordsG (midL s a pos ++ _) _
    rw [I]
  have hps:pos=s.size:=by omega
  rw [Lib.spansFromP_end _ _ _ _ _ _ hlt];exact spans_words s 0 pos st acc hp (by omega) hst
theorem fields_words (s:ByteArray):Lib.goFieldsP (fun r=>decide (r=32)) s=wordsT s:=by
 unfold Lib.goFieldsP Lib.spansOfP;rw [spans_words s s.size 0 none [] (Nat.zero_le _) (by omega) (fun a h=>by cases h)];rfl
def termCells (t:Term4):List Value:=[.int .i64 t.key,.string t.nm,.int .i64 t.op,.string t.val]
def okT (t:Term4):Prop:=okI t.key∧t.nm.size≤maxLen∧okI t.op∧t.val.size≤maxLen
instance:RepS Term4 where
 size:=4
 rd _ _ a cs:=cs=termCells a∧okT a
 len h:=by rw [h.1];rfl
 keep _ h:=h
 more _ h:=h
 rdS _ _ a cs:=cs=termCells a∧okT a
 pos:=by show 0<4;omega
 lenS h:=by rw [h.1];rfl
 one h u hu:=by rw [h.1] at hu;simp [termCells] at hu;rcases hu with rfl | rfl | rfl | rfl <;> rfl
 mono _ _ h:=h
 rd_iff:=Iff.rfl
def SlP {α:Type} [RepS α] (l:List α) (w:World) (e:Ending) (w':World):Prop:=Below w.heap.size w w'∧∃ A c,e=.returned (.slice A l.length c)∧Sl w' w'.heap.size A c l
theorem SlP.of_own {α:Type} [RepS α] {F:Nat→Prop} {l:List α} {w w':World} {base:Nat} {e:Ending} {v:Value} {T:TypeId} (hb:Below w.heap.size w w') (he:e=.returned v) (h:OwnsS F w' base T v l):SlP l w e w':=by
 obtain ⟨A,c,C,B⟩:=h.sl;exact ⟨hb,A,c,by rw [he,C],B⟩
structure DH where
 a0:Option Addr
 c0:Nat
 a1:Option Addr
 c1:Nat
 a2:Option Addr
 c2:Nat
 a3:Option Addr
 c3:Nat
 a4:Option Addr
 c4:Nat
 a5:Option Addr
 c5:Nat
def drC (d:Draft) (v0 v1 v2 v3 v4 v5:Value):List Value:=[v0,v1,v2,v3,v4,.string d.nm,.int .i64 d.prio,.string d.owner,.string d.group,.int .i64 d.mode,.string d.res,.int .i64 d.calls,.int .i64 d.ticks,v5]
def drV (d:Draft) (h:DH):List Value:=drC d (.slice h.a0 d.props.length h.c0) (.slice h.a1 d.tags.length h.c1) (.slice h.a2 d.links.length h.c2) (.slice h.a3 d.run.length h.c3) (.slice h.a4 d.load.length h.c4) (.slice h.a5 d.closed.length h.c5)
def okDr (d:Draft):Prop:=d.nm.size≤maxLen∧okI d.prio∧d.owner.size≤maxLen∧d.group.size≤maxLen∧okI d.mode∧d.res.size≤maxLen∧okI d.calls∧okI d.ticks
def DSl (w:World) (B:Nat) (d:Draft) (h:DH):Prop :=
 Sl w B h.a0 h.c0 d.props∧Sl w B h.a1 h.c1 d.tags∧Sl w B h.a2 h.c2 d.links∧Sl w B h.a3 h.c3 d.run∧Sl w B h.a4 h.c4 d.load∧Sl w B h.a5 h.c5 d.closed∧okDr d
theorem DSl.keep {w w':World} {B:Nat} {d:Draft} {h:DH} (k:DSl w B d h) (hb:Below B w w'):DSl w' B d h :=
 ⟨k.1.keep hb,k.2.1.keep hb,k.2.2.1.keep hb,k.2.2.2.1.keep hb,k.2.2.2.2.1.keep hb,k.2.2.2.2.2.1.keep hb,k.2.2.2.2.2.2⟩
theorem DSl.more {w:World} {B B':Nat} {d:Draft} {h:DH} (k:DSl w B d h) (hb:B≤B'):DSl w B' d h :=
 ⟨k.1.more hb,k.2.1.more hb,k.2.2.1.more hb,k.2.2.2.1.more hb,k.2.2.2.2.1.more hb,k.2.2.2.2.2.1.more hb,k.2.2.2.2.2.2⟩
theorem DSl.next {w w':World} {B:Nat} {d:Draft} {h:DH} (k:DSl w B d h) (hB:B≤w.heap.size) (hb:Below w.heap.size w w'):DSl w' w'.heap.size d h:=(k.keep (hb.mono hB)).more (Nat.le_trans hB hb.size)
def SlF {α:Type} [RepS α] (N:Nat→Prop) (l:List α) (w:World) (e:Ending) (w':World):Prop:=Below w.heap.size w w'∧∃ A c,e=.returned (.slice A l.length c)∧FreeS N w' A c l
theorem SlF.of_own {α:Type} [RepS α] {N:Nat→Prop} {l:List α} {w w':World} {base:Nat} {e:Ending} {v:Value} {T:TypeId} (hb:Below w.heap.size w w') (he:e=.returned v) (h:OwnsS (fun _=>False) w' base T v l) (hN:∀ x,N x→x<base):SlF N l w e w':=by
 obtain ⟨A,c,C,B⟩:=h.free (N:=N) (fun x hx=>⟨hN x hx,fun h=>h⟩);exact ⟨hb,A,c,by rw [he,C],B⟩
theorem own_anyT {F F':Nat→Prop} {w:World} {base:Nat} {T:TypeId} {v:Value} {l:List ByteArray} (h:OwnsS F w base T v l):OwnsS F' w base T v l:=by
 obtain ⟨A,B,C,D⟩:=h;exact ⟨A,B,C,fun i x cs hx hcs=>D i x cs hx hcs⟩
theorem own_any4 {F F':Nat→Prop} {w:World} {base:Nat} {T:TypeId} {v:Value} {l:List Term4} (h:OwnsS F w base T v l):OwnsS F' w base T v l:=by
 obtain ⟨A,B,C,D⟩:=h;exact ⟨A,B,C,fun i x cs hx hcs=>D i x cs hx hcs⟩
def DFr (N:Nat→Prop) (w:World) (d:Draft) (h:DH):Prop :=
 FreeS N w h.a0 h.c0 d.props∧FreeS N w h.a1 h.c1 d.tags∧FreeS N w h.a2 h.c2 d.links∧FreeS N w h.a3 h.c3 d.run∧FreeS N w h.a4 h.c4 d.load∧FreeS N w h.a5 h.c5 d.closed∧okDr d
section
variable {N N':Nat→Prop} {w w':World} {d:Draft} {h:DH} {q:Nat}
theorem DFr.below (k:DFr N w d h) (hb:Below w.heap.size w w'):DFr N w' d h :=
 ⟨k.1.below hb,k.2.1.below hb,k.2.2.1.below hb,k.2.2.2.1.below hb,k.2.2.2.2.1.below hb,k.2.2.2.2.2.1.below hb,k.2.2.2.2.2.2⟩
theorem DFr.grown (k:DFr N w d h) (hg:w.grownBy w' (some q)) (hq:N q∨w.heap.size≤q):DFr N w' d h :=
 ⟨k.1.grown hg hq,k.2.1.grown hg hq,k.2.2.1.grown hg hq,k.2.2.2.1.grown hg hq,k.2.2.2.2.1.grown hg hq,k.2.2.2.2.2.1.grown hg hq,k.2.2.2.2.2.2⟩
theorem DFr.set_ (k:DFr N w d h) (hq:N q) (j:Nat) (v:Value):DFr N (w.setCell ⟨q,j,none⟩ v) d h:=k.grown (grown_one w q j v) (.inl hq)
theorem DFr.more (k:DFr N w d h) (hN:∀ x,x<w.heap.size→N' x→N x):DFr N' w d h :=
 ⟨k.1.more hN,k.2.1.more hN,k.2.2.1.more hN,k.2.2.2.1.more hN,k.2.2.2.2.1.more hN,k.2.2.2.2.2.1.more hN,k.2.2.2.2.2.2⟩
theorem DFr.sl (k:DFr N w d h):DSl w w.heap.size d h :=
 ⟨k.1.out,k.2.1.out,k.2.2.1.out,k.2.2.2.1.out,k.2.2.2.2.1.out,k.2.2.2.2.2.1.out,k.2.2.2.2.2.2⟩
end
def DPost (N:Nat→Prop) (d:Draft) (w:World) (e:Ending) (w':World):Prop:=Below w.heap.size w w'∧∃ h,e=.returned (.agg #[.slice h.a0 d.props.length h.c0,.slice h.a1 d.tags.length h.c1,.slice h.a2 d.links.length h.c2,.slice h.a3 d.run.length h.c3,.slice h.a4 d.load.length h.c4,.string d.nm,.int .i64 d.prio,.string d.owner,.string d.group,.int .i64 d.mode,.string d.res,.int .i64 d.calls,.int .i64 d.ticks,.slice h.a5 d.closed.length h.c5])∧DFr N w' d h
def set14 (w:World) (g:Nat) (v0 v1 v2 v3 v4 v5 v6 v7 v8 v9 v10 v11 v12 v13:Value):World :=
 (((((((((((((w.setCell ⟨g,0,none⟩ v0).setCell ⟨g,1,none⟩ v1).setCell ⟨g,2,none⟩ v2).setCell ⟨g,3,none⟩ v3).setCell ⟨g,4,none⟩ v4).setCell ⟨g,5,none⟩ v5).setCell ⟨g,6,none⟩ v6).setCell ⟨g,7,none⟩ v7).setCell ⟨g,8,none⟩ v8).setCell ⟨g,9,none⟩ v9).setCell ⟨g,10,none⟩ v10).setCell ⟨g,11,none⟩ v11).setCell ⟨g,12,none⟩ v12).setCell ⟨g,13,none⟩ v13
theorem set14_ind {g:Nat} (M:World→Prop) (hs:∀ w j v,M w→M (w.setCell ⟨g,j,none⟩ v)) {w:World} (h:M w) (v0 v1 v2 v3 v4 v5 v6 v7 v8 v9 v10 v11 v12 v13:Value):M (set14 w g v0 v1 v2 v3 v4 v5 v6 v7 v8 v9 v10 v11 v12 v13):=by
 unfold set14;exact hs _ _ _ (hs _ _ _ (hs _ _ _ (hs _ _ _ (hs _ _ _ (hs _ _ _ (hs _ _ _ (hs _ _ _ (hs _ _ _ (hs _ _ _ (hs _ _ _ (hs _ _ _ (hs _ _ _ (hs _ _ _ h)))))))))))))
theorem BoxL.set14 {w:World} {g:Nat} {z0 z1 z2 z3 z4 z5 z6 z7 z8 z9 z10 z11 z12 z13:Value} (h:BoxL w g [z0,z1,z2,z3,z4,z5,z6,z7,z8,z9,z10,z11,z12,z13]) (v0 v1 v2 v3 v4 v5 v6 v7 v8 v9 v10 v11 v12 v13:Value) :
  BoxL (set14 w g v0 v1 v2 v3 v4 v5 v6 v7 v8 v9 v10 v11 v12 v13) g [v0,v1,v2,v3,v4,v5,v6,v7,v8,v9,v10,v11,v12,v13]:=by
 unfold Go.Cold.set14;exact (((((((((((((h.set_ (j:=0) (by simp) v0).set_ (j:=1) (by simp) v1).set_ (j:=2) (by simp) v2).set_ (j:=3) (by simp) v3).set_ (j:=4) (by simp) v4).set_ (j:=5) (by simp) v5).set_ (j:=6) (by simp) v6).set_ (j:=7) (by simp) v7).set_ (j:=8) (by simp) v8).set_ (j:=9) (by simp) v9).set_ (j:=10) (by simp) v10).set_ (j:=11) (by simp) v11).set_ (j:=12) (by simp) v12).set_ (j:=13) (by simp) v13
theorem OwnsS.apart {α:Type} [RepS α] {w w':World} {base:Nat} {e:TypeId} {v:Value} {xs:List α} {row:Option Nat} (h:OwnsS (fun _=>False) w base e v xs) (hg:w.grownBy w' row) (hne:∀ k,v.ownBlock=some k→row≠some k):OwnsS (fun _=>False) w' base e v xs:=by
 obtain ⟨A,B,C,D⟩:=h;refine ⟨A,B.kept hg ?_,C,fun i x cs hx hcs=>RepS.mono (fun b hb=>hb.1.elim) (fun b o u hb _=>hb.1.elim) (D i x cs hx hcs)⟩;cases hv:v.ownBlock with
 | none=>exact .inl rfl
 | some k=>exact .inr (fun e=>hne k hv e.symm)
theorem grown14 (w:World) (g:Nat) (v0 v1 v2 v3 v4 v5 v6 v7 v8 v9 v10 v11 v12 v13:Value):w.grownBy (set14 w g v0 v1 v2 v3 v4 v5 v6 v7 v8 v9 v10 v11 v12 v13) (some g) :=
 set14_ind (fun w'=>w.grownBy w' (some g)) (fun w' j v h=>grown_seq h (grown_one w' g j v)) (grown_wide (grown_none (Below.refl _ _))) v0 v1 v2 v3 v4 v5 v6 v7 v8 v9 v10 v11 v12 v13
theorem DPost.fin {N N2:Nat→Prop} {d:Draft} {h:DH} {w wk:World} {g:Nat} (hB:Below w.heap.size w wk) (hg:w.heap.size≤g) (hN:∀ x,N x→N2 x) (hg2:N2 g) (hd:DFr N2 wk d h) (v0 v1 v2 v3 v4 v5 v6 v7 v8 v9 v10 v11 v12 v13:Value) :
  DPost N d w (.returned (.agg #[.slice h.a0 d.props.length h.c0,.slice h.a1 d.tags.length h.c1,.slice h.a2 d.links.length h.c2,.slice h.a3 d.run.length h.c3,.slice h.a4 d.load.length h.c4,.string d.nm,.int .i64 d.prio,.string d.owner,.string d.group,.int .i64 d.mode,.string d.res,.int .i64 d.calls,.int .i64 d.ticks,.slice h.a5 d.closed.length h.c5])) (set14 wk g v0 v1 v2 v3 v4 v5 v6 v7 v8 v9 v10 v11 v12 v13) :=
 ⟨hB.grown (grown14 wk g v0 v1 v2 v3 v4 v5 v6 v7 v8 v9 v10 v11 v12 v13) hB.size (fun q hq=>by have:=Option.some.inj hq;omega),h,rfl,(hd.grown (grown14 wk g v0 v1 v2 v3 v4 v5 v6 v7 v8 v9 v10 v11 v12 v13) (.inl hg2)).more (fun x _ hx=>hN x hx)⟩
def AsgSt (N:Nat→Prop) (w:World) (gd gr:Nat) (d:Draft) (wx:World):Prop :=
 ∃ h,Below w.heap.size w wx∧BoxL wx gd (drV d h)∧BoxL wx gr [.slice none 0 0,.slice none 0 0,.slice none 0 0,.slice none 0 0,.slice none 0 0,.string ByteArray.empty,.int .i64 0,.string ByteArray.empty,.string ByteArray.empty,.int .i64 0,.string ByteArray.empty,.int .i64 0,.int .i64 0,.slice none 0 0]∧DFr N wx d h
theorem free_one {N:Nat→Prop} {w:World} {g:Nat} {s:ByteArray} (h:BoxL w g [.string s]) (hs:s.size≤maxLen) (hN:¬ N g):FreeS N w (some ⟨g,0,none⟩) 1 [s]:=by
 refine ⟨Nat.le_refl _,by decide,fun _=>⟨g,0,rfl,⟨h.2.2,hN⟩,fun i x hx=>?_⟩⟩;have A:i=0:=by have:=(List.getElem?_eq_some_iff.1 hx).1;simp at this;exact this
 subst A;obtain rfl:=Option.some.inj hx;exact ⟨[.string s],⟨rfl,hs⟩,fun j u hu=>by rw [Nat.zero_mul,Nat.zero_add,Nat.zero_add];exact h.1 j u hu⟩
def Apart (a b:Value):Prop:=∀ k,a.ownBlock=some k→b.ownBlock≠some k
theorem Apart.symm {a b:Value} (h:Apart a b):Apart b a:=fun k hb ha=>h k ha hb
structure EdR (TA TS TT:TypeId) (w:World) (base X:Nat) (d:Draft) (v0 v1 v2 v3 v4 v5:Value):Prop where
 o0:OwnsS (fun _=>False) w base TA v0 d.props
 o1:OwnsS (fun _=>False) w base TS v1 d.tags
 o2:OwnsS (fun _=>False) w base TS v2 d.links
 o3:OwnsS (fun _=>False) w base TS v3 d.run
 o4:OwnsS (fun _=>False) w base TS v4 d.load
 o5:OwnsS (fun _=>False) w base TT v5 d.closed
 p01:Apart v0 v1
 p02:Apart v0 v2
 p03:Apart v0 v3
 p04:Apart v0 v4
 p05:Apart v0 v5
 p12:Apart v1 v2
 p13:Apart v1 v3
 p14:Apart v1 v4
 p15:Apart v1 v5
 p23:Apart v2 v3
 p24:Apart v2 v4
 p25:Apart v2 v5
 p34:Apart v3 v4
 p35:Apart v3 v5
 p45:Apart v4 v5
 x0:v0.ownBlock≠some X
 x1:v1.ownBlock≠some X
 x2:v2.ownBlock≠some X
 x3:v3.ownBlock≠some X
 x4:v4.ownBlock≠some X
 x5:v5.ownBlock≠some X
 bx:base≤X
 xl:X<w.heap.size
 ok:okDr d
def EdX (TA TS TT:TypeId) (w:World) (base X:Nat) (d:Draft):Prop:=∃ v0 v1 v2 v3 v4 v5,BoxL w X (drC d v0 v1 v2 v3 v4 v5)∧EdR TA TS TT w base X d v0 v1 v2 v3 v4 v5
theorem EdR.below {TA TS TT:TypeId} {w w':World} {base X:Nat} {d:Draft} {v0 v1 v2 v3 v4 v5:Value} (h:EdR TA TS TT w base X d v0 v1 v2 v3 v4 v5) (hb:Below w.heap.size w w'):EdR TA TS TT w' base X d v0 v1 v2 v3 v4 v5 :=
 { h with o0:=h.o0.below hb,o1:=h.o1.below hb,o2:=h.o2.below hb,o3:=h.o3.below hb,o4:=h.o4.below hb,o5:=h.o5.below hb,xl:=Nat.lt_of_lt_of_le h.xl hb.size }
theorem EdX.below {TA TS TT:TypeId} {w w':World} {base X:Nat} {d:Draft} (h:EdX TA TS TT w base X d) (hb:Below w.heap.size w w'):EdX TA TS TT w' base X d:=by
 obtain ⟨C,D,E,F,G,H,A,B⟩:=h;exact ⟨C,D,E,F,G,H,A.kept (grown_none hb) (fun e=>by cases e),B.below hb⟩
theorem EdR.self {TA TS TT:TypeId} {w w':World} {base X:Nat} {d:Draft} {v0 v1 v2 v3 v4 v5:Value} (h:EdR TA TS TT w base X d v0 v1 v2 v3 v4 v5) (hg:w.grownBy w' (some X)):EdR TA TS TT w' base X d v0 v1 v2 v3 v4 v5 :=
 { h with o0:=h.o0.apart hg (fun k hk e=>h.x0 (hk.trans e.symm)),o1:=h.o1.apart hg (fun k hk e=>h.x1 (hk.trans e.symm)),o2:=h.o2.apart hg (fun k hk e=>h.x2 (hk.trans e.symm)),o3:=h.o3.apart hg (fun k hk e=>h.x3 (hk.trans e.symm)),o4:=h.o4.apart hg (fun k hk e=>h.x4 (hk.trans e.symm)),o5:=h.o5.apart hg (fun k hk e=>h.x5 (hk.trans e.symm)),xl:=Nat.lt_of_lt_of_le h.xl hg.size }
theorem EdR.set0 {TA TS TT:TypeId} {w w':World} {base X:Nat} {d:Draft} {v0 v1 v2 v3 v4 v5:Value} {l:List Attr} {v:Value} (h:EdR TA TS TT w base X d v0 v1 v2 v3 v4 v5) (ho:OwnsS (fun _=>False) w' base TA v l) (hg:w.grownBy w' v0.ownBlock) (hn:∀ k,v.ownBlock=some k→v0.ownBlock=some k∨w.heap.size≤k):EdR TA TS TT w' base X { d with props:=l } v v1 v2 v3 v4 v5 :=
 { h with o0:=ho,o1:=h.o1.apart hg (fun k hk e=>h.p01.symm k hk e),o2:=h.o2.apart hg (fun k hk e=>h.p02.symm k hk e),o3:=h.o3.apart hg (fun k hk e=>h.p03.symm k hk e),o4:=h.o4.apart hg (fun k hk e=>h.p04.symm k hk e),o5:=h.o5.apart hg (fun k hk e=>h.p05.symm k hk e),p01:=fun k hk hq=>(hn k hk).elim (fun e=>h.p01 k e hq) (fun e=>by have:=(h.o1.lt k hq).2;omega),p02:=fun k hk hq=>(hn k hk).elim (fun e=>h.p02 k e hq) (fun e=>by have:=(h.o2.lt k hq).2;omega),p03:=fun k hk hq=>(hn k hk).elim (fun e=>h.p03 k e hq) (fun e=>by have:=(h.o3.lt k hq).2;omega),p04:=fun k hk hq=>(hn k hk).elim (fun e=>h.p04 k e hq) (fun e=>by have:=(h.o4.lt k hq).2;omega),p05:=fun k hk hq=>(hn k hk).elim (fun e=>h.p05 k e hq) (fun e=>by have:=(h.o5.lt k hq).2;omega),x0:=fun e=>(hn X e).elim (fun e2=>h.x0 e2) (fun e2=>by have:=h.xl;omega),xl:=Nat.lt_of_lt_of_le h.xl hg.size }
theorem EdR.set1 {TA TS TT:TypeId} {w w':World} {base X:Nat} {d:Draft} {v0 v1 v2 v3 v4 v5:Value} {l:List ByteArray} {v:Value} (h:EdR TA TS TT w base X d v0 v1 v2 v3 v4 v5) (ho:OwnsS (fun _=>False) w' base TS v l) (hg:w.grownBy w' v1.ownBlock) (hn:∀ k,v.ownBlock=some k→v1.ownBlock=some k∨w.heap.size≤k):EdR TA TS TT w' base X { d with tags:=l } v0 v v2 v3 v4 v5 :=
 { h with o0:=h.o0.apart hg (fun k hk e=>h.p01 k hk e),o1:=ho,o2:=h.o2.apart hg (fun k hk e=>h.p12.symm k hk e),o3:=h.o3.apart hg (fun k hk e=>h.p13.symm k hk e),o4:=h.o4.apart hg (fun k hk e=>h.p14.symm k hk e),o5:=h.o5.apart hg (fun k hk e=>h.p15.symm k hk e),p01:=fun k hk hq=>(hn k hq).elim (fun e=>h.p01 k hk e) (fun e=>by have:=(h.o0.lt k hk).2;omega),p12:=fun k hk hq=>(hn k hk).elim (fun e=>h.p12 k e hq) (fun e=>by have:=(h.o2.lt k hq).2;omega),p13:=fun k hk hq=>(hn k hk).elim (fun e=>h.p13 k e hq) (fun e=>by have:=(h.o3.lt k hq).2;omega),p14:=fun k hk hq=>(hn k hk).elim (fun e=>h.p14 k e hq) (fun e=>by have:=(h.o4.lt k hq).2;omega),p15:=fun k hk hq=>(hn k hk).elim (fun e=>h.p15 k e hq) (fun e=>by have:=(h.o5.lt k hq).2;omega),x1:=fun e=>(hn X e).elim (fun e2=>h.x1 e2) (fun e2=>by have:=h.xl;omega),xl:=Nat.lt_of_lt_of_le h.xl hg.size }
theorem EdR.set2 {TA TS TT:TypeId} {w w':World} {base X:Nat} {d:Draft} {v0 v1 v2 v3 v4 v5:Value} {l:List ByteArray} {v:Value} (h:EdR TA TS TT w base X d v0 v1 v2 v3 v4 v5) (ho:OwnsS (fun _=>False) w' base TS v l) (hg:w.grownBy w' v2.ownBlock) (hn:∀ k,v.ownBlock=some k→v2.ownBlock=some k∨w.heap.size≤k):EdR TA TS TT w' base X { d with links:=l } v0 v1 v v3 v4 v5 :=
 { h with o0:=h.o0.apart hg (fun k hk e=>h.p02 k hk e),o1:=h.o1.apart hg (fun k hk e=>h.p12 k hk e),o2:=ho,o3:=h.o3.apart hg (fun k hk e=>h.p23.symm k hk e),o4:=h.o4.apart hg (fun k hk e=>h.p24.symm k hk e),o5:=h.o5.apart hg (fun k hk e=>h.p25.symm k hk e),p02:=fun k hk hq=>(hn k hq).elim (fun e=>h.p02 k hk e) (fun e=>by have:=(h.o0.lt k hk).2;omega),p12:=fun k hk hq=>(hn k hq).elim (fun e=>h.p12 k hk e) (fun e=>by have:=(h.o1.lt k hk).2;omega),p23:=fun k hk hq=>(hn k hk).elim (fun e=>h.p23 k e hq) (fun e=>by have:=(h.o3.lt k hq).2;omega),p24:=fun k hk hq=>(hn k hk).elim (fun e=>h.p24 k e hq) (fun e=>by have:=(h.o4.lt k hq).2;omega),p25:=fun k hk hq=>(hn k hk).elim (fun e=>h.p25 k e hq) (fun e=>by have:=(h.o5.lt k hq).2;omega),x2:=fun e=>(hn X e).elim (fun e2=>h.x2 e2) (fun e2=>by have:=h.xl;omega),xl:=Nat.lt_of_lt_of_le h.xl hg.size }
theorem EdR.set3 {TA TS TT:TypeId} {w w':World} {base X:Nat} {d:Draft} {v0 v1 v2 v3 v4 v5:Value} {l:List ByteArray} {v:Value} (h:EdR TA TS TT w base X d v0 v1 v2 v3 v4 v5) (ho:OwnsS (fun _=>False) w' base TS v l) (hg:w.grownBy w' v3.ownBlock) (hn:∀ k,v.ownBlock=some k→v3.ownBlock=some k∨w.heap.size≤k):EdR TA TS TT w' base X { d with run:=l } v0 v1 v2 v v4 v5 :=
 { h with o0:=h.o0.apart hg (fun k hk e=>h.p03 k hk e),o1:=h.o1.apart hg (fun k hk e=>h.p13 k hk e),o2:=h.o2.apart hg (fun k hk e=>h.p23 k hk e),o3:=ho,o4:=h.o4.apart hg (fun k hk e=>h.p34.symm k hk e),o5:=h.o5.apart hg (fun k hk e=>h.p35.symm k hk e),p03:=fun k hk hq=>(hn k hq).elim (fun e=>h.p03 k hk e) (fun e=>by have:=(h.o0.lt k hk).2;omega),p13:=fun k hk hq=>(hn k hq).elim (fun e=>h.p13 k hk e) (fun e=>by have:=(h.o1.lt k hk).2;omega),p23:=fun k hk hq=>(hn k hq).elim (fun e=>h.p23 k hk e) (fun e=>by have:=(h.o2.lt k hk).2;omega),p34:=fun k hk hq=>(hn k hk).elim (fun e=>h.p34 k e hq) (fun e=>by have:=(h.o4.lt k hq).2;omega),p35:=fun k hk hq=>(hn k hk).elim (fun e=>h.p35 k e hq) (fun e=>by have:=(h.o5.lt k hq).2;omega),x3:=fun e=>(hn X e).elim (fun e2=>h.x3 e2) (fun e2=>by have:=h.xl;omega),xl:=Nat.lt_of_lt_of_le h.xl hg.size }
theorem EdR.set4 {TA TS TT:TypeId} {w w':World} {base X:Nat} {d:Draft} {v0 v1 v2 v3 v4 v5:Value} {l:List ByteArray} {v:Value} (h:EdR TA TS TT w base X d v0 v1 v2 v3 v4 v5) (ho:OwnsS (fun _=>False) w' base TS v l) (hg:w.grownBy w' v4.ownBlock) (hn:∀ k,v.ownBlock=some k→v4.ownBlock=some k∨w.heap.size≤k):EdR TA TS TT w' base X { d with load:=l } v0 v1 v2 v3 v v5 :=
 { h with o0:=h.o0.apart hg (fun k hk e=>h.p04 k hk e),o1:=h.o1.apart hg (fun k hk e=>h.p14 k hk e),o2:=h.o2.apart hg (fun k hk e=>h.p24 k hk e),o3:=h.o3.apart hg (fun k hk e=>h.p34 k hk e),o4:=ho,o5:=h.o5.apart hg (fun k hk e=>h.p45.symm k hk e),p04:=fun k hk hq=>(hn k hq).elim (fun e=>h.p04 k hk e) (fun e=>by have:=(h.o0.lt k hk).2;omega),p14:=fun k hk hq=>(hn k hq).elim (fun e=>h.p14 k hk e) (fun e=>by have:=(h.o1.lt k hk).2;omega),p24:=fun k hk hq=>(hn k hq).elim (fun e=>h.p24 k hk e) (fun e=>by have:=(h.o2.lt k hk).2;omega),p34:=fun k hk hq=>(hn k hq).elim (fun e=>h.p34 k hk e) (fun e=>by have:=(h.o3.lt k hk).2;omega),p45:=fun k hk hq=>(hn k hk).elim (fun e=>h.p45 k e hq) (fun e=>by have:=(h.o5.lt k hq).2;omega),x4:=fun e=>(hn X e).elim (fun e2=>h.x4 e2) (fun e2=>by have:=h.xl;omega),xl:=Nat.lt_of_lt_of_le h.xl hg.size }
theorem EdR.set5 {TA TS TT:TypeId} {w w':World} {base X:Nat} {d:Draft} {v0 v1 v2 v3 v4 v5:Value} {l:List Term4} {v:Value} (h:EdR TA TS TT w base X d v0 v1 v2 v3 v4 v5) (ho:OwnsS (fun _=>False) w' base TT v l) (hg:w.grownBy w' v5.ownBlock) (hn:∀ k,v.ownBlock=some k→v5.ownBlock=some k∨w.heap.size≤k):EdR TA TS TT w' base X { d with closed:=l } v0 v1 v2 v3 v4 v :=
 { h with o0:=h.o0.apart hg (fun k hk e=>h.p05 k hk e),o1:=h.o1.apart hg (fun k hk e=>h.p15 k hk e),o2:=h.o2.apart hg (fun k hk e=>h.p25 k hk e),o3:=h.o3.apart hg (fun k hk e=>h.p35 k hk e),o4:=h.o4.apart hg (fun k hk e=>h.p45 k hk e),o5:=ho,p05:=fun k hk hq=>(hn k hq).elim (fun e=>h.p05 k hk e) (fun e=>by have:=(h.o0.lt k hk).2;omega),p15:=fun k hk hq=>(hn k hq).elim (fun e=>h.p15 k hk e) (fun e=>by have:=(h.o1.lt k hk).2;omega),p25:=fun k hk hq=>(hn k hq).elim (fun e=>h.p25 k hk e) (fun e=>by have:=(h.o2.lt k hk).2;omega),p35:=fun k hk hq=>(hn k hq).elim (fun e=>h.p35 k hk e) (fun e=>by have:=(h.o3.lt k hk).2;omega),p45:=fun k hk hq=>(hn k hq).elim (fun e=>h.p45 k hk e) (fun e=>by have:=(h.o4.lt k hk).2;omega),x5:=fun e=>(hn X e).elim (fun e2=>h.x5 e2) (fun e2=>by have:=h.xl;omega),xl:=Nat.lt_of_lt_of_le h.xl hg.size }
theorem EdR.free {TA TS TT:TypeId} {w:World} {base X:Nat} {d:Draft} {v0 v1 v2 v3 v4 v5:Value} {N:Nat→Prop} (h:EdR TA TS TT w base X d v0 v1 v2 v3 v4 v5) (hN:∀ x,N x→x<base):∃ k:DH,drC d v0 v1 v2 v3 v4 v5=drV d k∧DFr N w d k:=by
 obtain ⟨A,G,M,T⟩:=h.o0.free (N:=N) (fun x hx=>⟨hN x hx,fun h=>h⟩);obtain ⟨B,H,O,U⟩:=h.o1.free (N:=N) (fun x hx=>⟨hN x hx,fun h=>h⟩);obtain ⟨C,I,P,V⟩:=h.o2.free (N:=N) (fun x hx=>⟨hN x hx,fun h=>h⟩);obtain ⟨D,J,Q,W⟩:=h.o3.free (N:=N) (fun x hx=>⟨hN x hx,fun h=>h⟩);obtain ⟨E,K,R,Y⟩:=h.o4.free (N:=N) (fun x hx=>⟨hN x hx,fun h=>h⟩);obtain ⟨F,L,S,Z⟩:=h.o5.free (N:=N) (fun x hx=>⟨hN x hx,fun h=>h⟩);exact ⟨⟨A,G,B,H,C,I,D,J,E,K,F,L⟩,by rw [M,O,P,Q,R,S];rfl,T,U,V,W,Y,Z,h.ok⟩
def puGo:Int→List UInt8→Option Int
 | n,[]=>some n
 | n,x :: r=>if 48≤x.toNat∧x.toNat≤55∧8 * n+((x.toNat:Int) - 48)≤4095 then puGo (8 * n+((x.toNat:Int) - 48)) r else none
def puT (s:ByteArray):Option Int:=if s.size=0 then none else puGo 0 s.data.toList
theorem puGo_oct:∀ (l:List UInt8) (n:Int),0≤n→(n+1) * 8 ^ l.length≤4096→puGo n l=octGo n l
 | [],_,_,_=>rfl
 | x :: r,n,h0,h=>by
  rw [puGo,octGo];rw [List.length_cons,Int.pow_succ] at h;by_cases hx:48≤x.toNat∧x.toNat≤55
  ·
   have hp:(1:Int)≤8 ^ r.length:=by
    have:(0:Int)<8 ^ r.length:=Int.pow_pos (by decide);omega
   have A:(8 * n+((x.toNat:Int) - 48)+1)≤(n+1) * 8:=by omega
   have B:(8 * n+((x.toNat:Int) - 48)+1) * 8 ^ r.length≤4096:=Int.le_trans (Int.mul_le_mul_of_nonneg_right A (by omega)) (by rw [Int.mul_assoc,Int.mul_comm 8];exact h);have C:(8 * n+((x.toNat:Int) - 48)+1) * 1≤(8 * n+((x.toNat:Int) - 48)+1) * 8 ^ r.length:=Int.mul_le_mul_of_nonneg_left hp (by omega);rw [if_pos hx,if_pos ⟨hx.1,hx.2,by omega⟩];exact puGo_oct r _ (by omega) B
  rw [if_neg hx,if_neg (fun h=>hx ⟨h.1,h.2.1⟩)]
theorem pu_oct {s:ByteArray} (h:s.size≤4):puT s=octT s:=by
 unfold puT octT;by_cases h0:s.size=0
 ·
  rw [if_pos h0]
  cases octGo 0 s.data.toList with
  | none=>rfl
  | some n=>simp only;rw [if_neg (by omega)]
 rw [if_neg h0,puGo_oct _ 0 (by decide) (by
  rw [ba_size];have A:s.size=1∨s.size=2∨s.size=3∨s.size=4:=by omega
  rcases A with A | A | A | A <;> rw [A] <;> decide)]
 cases octGo 0 s.data.toList with
 | none=>rfl
 | some n=>simp only;rw [if_pos ⟨by omega,h⟩]
theorem oct_long {s:ByteArray} (h:4<s.size):octT s=none:=by
 unfold octT;cases octGo 0 s.data.toList with
 | none=>rfl
 | some n=>simp only;rw [if_neg (by omega)]
theorem mode_same (s:ByteArray):(if s.size≤4 then puT s else none)=octT s:=by
 by_cases h:s.size≤4
 · rw [if_pos h,pu_oct h]
 rw [if_neg h,oct_long (by omega)]
theorem prio_fin:∀ k:Fin 2001,numP (itoaT ((k.val:Int) - 1000))=some ((k.val:Int) - 1000):=by decide +kernel
theorem numP_itoa {t:ByteArray} {n:Int} (h:numP t=some n):itoaT n=t:=by
 unfold numP at h;split at h
 ·
  rename_i m hm
  split at h
  ·
   rename_i he
   obtain rfl:=Option.some.inj h;exact ba_ext he
  cases h
 cases h
theorem prio_same (t:ByteArray):(match numP t with | some n=>if -1000≤n∧n≤1000 then some n else none | none=>none)=prioT t:=by
 cases hp:prioT t with
 | some n =>
  obtain ⟨B,C,D⟩:=prio_range hp;have A:=prio_fin ⟨(n+1000).toNat,by omega⟩;have E:(((n+1000).toNat:Nat):Int) - 1000=n:=by omega
  simp only [E] at A;rw [D] at A;rw [A];simp only
  rw [if_pos ⟨B,C⟩]
 | none =>
  cases hn:numP t with
  | none=>rfl
  | some n =>
   simp only
   by_cases hr : -1000≤n∧n≤1000
   ·
    exfalso
    unfold prioT at hp;rw [List.find?_eq_none] at hp;refine hp n (List.mem_map.2 ⟨(n+1000).toNat,List.mem_range.2 (by omega),by omega⟩) ?_;exact decide_eq_true (numP_itoa hn)
   rw [if_neg hr]
theorem setA_none {l:List Attr} (h:sortedA l=true) {k v:ByteArray} (hg:getA l k=none) (hv:v.toList.isEmpty=true):setA l k v=l:=by
 refine sorted_ext (setA_sorted h k v) h fun n=>?_
 rw [getA_set h];split
 ·
  rename_i he
  subst he;rw [hg];unfold valO;rw [hv];rfl
 rfl
theorem setD_env {d:Draft} (h:sortedA d.props=true) (k v:ByteArray):setD d k v=(if (baseKeys.any fun b=>decide (k=b))=true∨textB v=false∨(getA d.props k=none∧64≤d.props.length) then d else { d with props:=setA d.props k v }):=by
 unfold setD;by_cases h1:(baseKeys.any fun b=>decide (k=b))=true∨textB v=false
 · rw [if_pos h1,if_pos (h1.elim .inl (fun h=>.inr (.inl h)))]
 rw [if_neg h1];by_cases h2:getA d.props k=none∧64≤d.props.length
 ·
  rw [if_pos (show _∨_∨_ from .inr (.inr h2))]
  cases hv:v.toList.isEmpty with
  | true =>
   rw [if_neg (by rintro ⟨h,_⟩;cases h),setA_none h h2.1 hv]
  | false=>rw [if_pos ⟨rfl,h2⟩]
 rw [if_neg (fun h=>h2 h.2),if_neg (fun h=>h.elim (fun h=>h1 (.inl h)) fun h=>h.elim (fun h=>h1 (.inr h)) h2)]
theorem asgD_more {d:Draft} (hg:∀ a ∈ d.props,goodA a) (t:Term4) (v:ByteArray) (hk:t.key=6) (ho:t.op=4) :
  asgD d t v=(if v.toList.isEmpty=true then d else match getA d.props t.nm with | some old=>setD d t.nm (cutT ((old ++ ⟨#[32]⟩) ++ v)) | none=>setD d t.nm v):=by
 unfold asgD;rw [if_pos hk];cases hv:v.toList.isEmpty with
 | true=>rw [if_pos ⟨ho,rfl⟩];rfl
 | false =>
  rw [if_neg (by rintro ⟨_,h⟩;cases h)];cases hx:getA d.props t.nm with
  | none=>rw [if_neg (by rintro ⟨_,h⟩;revert h;decide +kernel)];rfl
  | some old =>
   rw [if_pos ⟨ho,(hg _ (getA_mem hx)).2.2⟩];rfl
theorem asgD_env {d:Draft} (t:Term4) (v:ByteArray) (hk:t.key=6) (ho:t.op≠4):asgD d t v=setD d t.nm v:=by
 unfold asgD;rw [if_pos hk,if_neg (fun h=>ho h.1),if_neg (fun h=>ho h.1)]
def envN:List ByteArray:=[⟨#[73,68,95,65]⟩,⟨#[73,68,95,66]⟩,kSubsystem]
def namesK:List ByteArray:=baseKeys ++ envN
structure OkX (t:Term4):Prop where
 ok:okT t
 env:t.key=6→t.nm ∈ envN
 tag:t.key=7→t.op=3∨t.op=4∨t.op=5
theorem envN_key:∀ x ∈ envN,keyB x=true:=by decide +kernel
theorem OkX.keyB {t:Term4} (h:OkX t):t.key=6→keyB t.nm=true:=fun hk=>envN_key _ (h.env hk)
theorem okI_small {n:Int} (h1 : -100000≤n) (h2:n≤100000):okI n:=by unfold okI;omega
theorem setD_ok {d:Draft} (h:okDr d) (k v:ByteArray):okDr (setD d k v):=by
 unfold setD;split
 · exact h
 split
 · exact h
 exact h
theorem asgD_ok {d:Draft} (h:okDr d) (t:Term4) {v:ByteArray} (hv:v.size≤maxLen):okDr (asgD d t v):=by
 obtain ⟨D,E,F,G,H,A,B,C⟩:=h;have h:okDr d:=⟨D,E,F,G,H,A,B,C⟩;unfold asgD;by_cases k:t.key=6
 ·
  rw [if_pos k]
  split
  · exact h
  split
  · exact setD_ok h _ _
  exact setD_ok h _ _
 rw [if_neg k];clear k;by_cases k:t.key=7
 ·
  rw [if_pos k]
  repeat' split
  all_goals exact h
 rw [if_neg k];clear k;by_cases k:t.key=15
 ·
  rw [if_pos k]
  split
  · exact ⟨hv,E,F,G,H,A,B,C⟩
  exact h
 rw [if_neg k];clear k;by_cases k:t.key=16
 · rw [if_pos k];exact h
 rw [if_neg k];clear k;by_cases k:t.key=17
 ·
  rw [if_pos k]
  split
  · exact ⟨D,E,hv,G,H,A,B,C⟩
  exact h
 rw [if_neg k];clear k;by_cases k:t.key=18
 ·
  rw [if_pos k]
  split
  · exact ⟨D,E,F,hv,H,A,B,C⟩
  exact h
 rw [if_neg k];clear k;by_cases k:t.key=19
 ·
  rw [if_pos k]
  cases ho:octT v with
  | none=>exact h
  | some n=>obtain ⟨I,J⟩:=oct_range ho;exact (⟨D,E,F,G,okI_small (by show -100000≤n;omega) (by show n≤100000;omega),A,B,C⟩:okDr { d with mode:=n })
 rw [if_neg k];clear k;by_cases k:t.key=20
 · rw [if_pos k];exact h
 rw [if_neg k];clear k;by_cases k:t.key=21
 ·
  rw [if_pos k]
  split
  · exact h
  exact h
 rw [if_neg k];clear k;by_cases k:t.key=22
 ·
  rw [if_pos k]
  cases hp:prioT v with
  | none=>exact h
  | some n=>obtain ⟨I,J,-⟩:=prio_range hp;exact (⟨D,okI_small (by show -100000≤n;omega) (by show n≤100000;omega),F,G,H,A,B,C⟩:okDr { d with prio:=n })
 rw [if_neg k];exact h
theorem closeD_ok {d:Draft} (h:okDr d) (t:Term4):okDr (closeD d t):=by
 unfold closeD;split
 · exact h
 exact h
theorem applyD_ok {d:Draft} (h:okDr d) (t:Term4) {v:ByteArray} (hv:v.size≤maxLen):okDr (applyD d t v):=by
 unfold applyD;split
 · exact h
 exact closeD_ok (asgD_ok h t hv) t
theorem setD_names {d:Draft} {k v:ByteArray}:∀ a ∈ (setD d k v).props,a ∈ d.props∨a.name=k:=by
 intro a ha;unfold setD at ha;split at ha
 · exact .inl ha
 split at ha
 · exact .inl ha
 rcases setA_mem _ _ _ a ha with rfl | h
 · exact .inr rfl
 exact .inl h
theorem asgD_names {d:Draft} {t:Term4} {v:ByteArray}:∀ a ∈ (asgD d t v).props,a ∈ d.props∨(t.key=6∧a.name=t.nm):=by
 intro a ha;unfold asgD at ha;by_cases k:t.key=6
 ·
  rw [if_pos k] at ha
  split at ha
  · exact .inl ha
  split at ha
  · exact (setD_names a ha).imp id fun h=>⟨k,h⟩
  exact (setD_names a ha).imp id fun h=>⟨k,h⟩
 rw [if_neg k] at ha;left
 clear k;by_cases k:t.key=7
 ·
  rw [if_pos k] at ha
  repeat' split at ha
  all_goals exact ha
 rw [if_neg k] at ha;clear k;by_cases k:t.key=15
 ·
  rw [if_pos k] at ha
  split at ha
  all_goals exact ha
 rw [if_neg k] at ha;clear k;by_cases k:t.key=16
 · rw [if_pos k] at ha;exact ha
 rw [if_neg k] at ha;clear k;by_cases k:t.key=17
 ·
  rw [if_pos k] at ha
  split at ha
  all_goals exact ha
 rw [if_neg k] at ha;clear k;by_cases k:t.key=18
 ·
  rw [if_pos k] at ha
  split at ha
  all_goals exact ha
 rw [if_neg k] at ha;clear k;by_cases k:t.key=19
 ·
  rw [if_pos k] at ha
  cases ho:octT v with
  | none=>rw [ho] at ha;exact ha
  | some n=>rw [ho] at ha;exact ha
 rw [if_neg k] at ha;clear k;by_cases k:t.key=20
 · rw [if_pos k] at ha;exact ha
 rw [if_neg k] at ha;clear k;by_cases k:t.key=21
 ·
  rw [if_pos k] at ha
  split at ha
  all_goals exact ha
 rw [if_neg k] at ha;clear k;by_cases k:t.key=22
 ·
  rw [if_pos k] at ha
  cases hp:prioT v with
  | none=>rw [hp] at ha;exact ha
  | some n=>rw [hp] at ha;exact ha
 rw [if_neg k] at ha;exact ha
structure MadeD (n:Nat) (d:Draft):Prop where
 snd:SoundD d
 ok:okDr d
 cl:d.closed.length≤n
 nms:∀ a ∈ d.props,a.name ∈ namesK
theorem MadeD.apply {n:Nat} {d:Draft} (h:MadeD n d) {t:Term4} (ht:OkX t) {v:ByteArray} (hv:v.size≤maxLen):MadeD (n+1) (applyD d t v) where
 snd:=apply_sound h.snd (OkX.keyB ht) v
 ok:=applyD_ok h.ok t hv
 cl:=by
  unfold applyD closeD;split
  · have:=h.cl;omega
  split
  ·
   show (_ ++ _:List Term4).length≤_
   rw [List.length_append,asg_closed];have:=h.cl;simp;omega
  rw [asg_closed];have:=h.cl;omega
 nms:=by
  intro a ha;have A:a ∈ d.props∨(t.key=6∧a.name=t.nm):=by
   unfold applyD closeD at ha;split at ha
   · exact .inl ha
   split at ha
   · exact asgD_names a ha
   exact asgD_names a ha
  rcases A with A | ⟨A,h2⟩
  · exact h.nms a A
  rw [h2];unfold namesK;exact List.mem_append_right _ (ht.env A)
theorem begin_ok (base:List Attr):okDr (beginD base):=⟨(show (ByteArray.empty).size≤maxLen by decide),(okI_small (n:=0) (by decide) (by decide):okI 0),(show (⟨#[114,111,111,116]⟩:ByteArray).size≤maxLen by decide),(show (⟨#[114,111,111,116]⟩:ByteArray).size≤maxLen by decide),(okI_small (n:=384) (by decide) (by decide):okI 384),(show (ByteArray.empty).size≤maxLen by decide),(okI_small (n:=0) (by decide) (by decide):okI 0),(okI_small (n:=0) (by decide) (by decide):okI 0)⟩
theorem MadeD.begin {base:List Attr} (h1:sortedA base=true) (h2:base.length≤64) (h3:∀ a ∈ base,goodA a) (h4:∀ a ∈ base,a.name ∈ baseKeys):MadeD 0 (beginD base) where
 snd:=begin_sound h1 h2 h3
 ok:=begin_ok base
 cl:=Nat.le_refl _
 nms:=fun a ha=>by unfold namesK;exact List.mem_append_left _ (h4 a ha)
def fillN (i:Nat):ByteArray:=⟨#[80,UInt8.ofNat (65+i / 26),UInt8.ofNat (65+i % 26)]⟩
theorem fillN_dec:((List.range 70).all fun i=>!(namesK.any fun b=>decide (fillN i=b)) && (!(baseKeys.any fun b=>decide (fillN i=b)) && (keyB (fillN i) && (List.range i).all fun j=>decide (fillN j≠fillN i))))=true:=by decide +kernel
theorem fillN_ne (i:Nat) (hi:i<70):fillN i ∉ namesK∧(baseKeys.any fun b=>decide (fillN i=b))=false∧keyB (fillN i)=true∧∀ j<i,fillN j≠fillN i:=by
 have h:=List.all_eq_true.1 fillN_dec i (List.mem_range.2 hi);simp only [Bool.and_eq_true,Bool.not_eq_true'] at h;obtain ⟨A,B,C,D⟩:=h;refine ⟨fun hm=>?_,B,C,fun j hj=>?_⟩
 ·
  have:=(List.any_eq_true (p:=fun b=>decide (fillN i=b))).2 ⟨_,hm,decide_eq_true rfl⟩
  rw [A] at this;cases this
 exact of_decide_eq_true (List.all_eq_true.1 D j (List.mem_range.2 hj))
def oneB:ByteArray:=⟨#[49]⟩
structure FillI (n i:Nat) (d:Draft):Prop where
 snd:SoundD d
 ok:okDr d
 cl:d.closed.length≤n
 nms:∀ a ∈ d.props,a.name ∈ namesK∨∃ j<i,a.name=fillN j
 len:i≤d.props.length
theorem MadeD.fill {n:Nat} {d:Draft} (h:MadeD n d):FillI n 0 d:=⟨h.snd,h.ok,h.cl,fun a ha=>.inl (h.nms a ha),Nat.zero_le _⟩
theorem setA_len_new {l:List Attr} (h:sortedA l=true) {k v:ByteArray} (hg:getA l k=none) (hv:v.toList.isEmpty=false):(setA l k v).length=l.length+1:=by
 have B:=posA_le l k;have A:atA l k=false:=by
  unfold atA;cases hx:l[posA l k]? with
  | none=>rfl
  | some a =>
   have:=getA_none.1 hg a (List.mem_of_getElem? hx);exact decide_eq_false this
 rw [set_put h];unfold putL;rw [hv,A];simp only [Bool.false_eq_true,if_false,List.length_append,List.length_take,List.length_drop,List.length_cons,List.length_nil];omega
theorem FillI.step {n i:Nat} {d:Draft} (h:FillI n i d) (hl:d.props.length<64):FillI n (i+1) (setD d (fillN i) oneB)∧(setD d (fillN i) oneB).props.length=d.props.length+1:=by
 have D:i<70:=by have:=h.len;omega
 obtain ⟨E,F,G,H⟩:=fillN_ne i D;have C:getA d.props (fillN i)=none:=getA_none.2 fun a ha e=>by
  rcases h.nms a ha with h1 | ⟨j,hj,h1⟩
  · exact E (e ▸ h1)
  exact H j hj (h1 ▸ e)
 have B:setD d (fillN i) oneB = { d with props:=setA d.props (fillN i) oneB }:=by
  unfold setD;rw [if_neg (fun h=>h.elim (fun h=>by rw [F] at h;cases h) (fun h=>by revert h;decide +kernel)),if_neg (by rintro ⟨_,_,h⟩;omega)]
 have A:(setD d (fillN i) oneB).props.length=d.props.length+1:=by
  rw [B];exact setA_len_new h.snd.ps C (by decide +kernel)
 refine ⟨⟨setD_sound h.snd G,setD_ok h.ok _ _,by rw [B];exact h.cl,fun a ha=>?_,by rw [A];have:=h.len;omega⟩,A⟩;rcases setD_names a ha with h1 | h1
 · exact (h.nms a h1).imp id fun ⟨j,hj,e⟩=>⟨j,by omega,e⟩
 exact .inr ⟨i,by omega,h1⟩
structure DraftI (n:Nat) (d:Draft):Prop where
 snd:SoundD d
 ok:okDr d
 cl:d.closed.length≤n
theorem FillI.out {n i:Nat} {d:Draft} (h:FillI n i d):DraftI n d:=⟨h.snd,h.ok,h.cl⟩
theorem MadeD.out {n:Nat} {d:Draft} (h:MadeD n d):DraftI n d:=⟨h.snd,h.ok,h.cl⟩
theorem DraftI.apply {n:Nat} {d:Draft} (h:DraftI n d) {t:Term4} (ht:OkX t) {v:ByteArray} (hv:v.size≤maxLen):DraftI (n+1) (applyD d t v) where
 snd:=apply_sound h.snd (OkX.keyB ht) v
 ok:=applyD_ok h.ok t hv
 cl:=by
  unfold applyD closeD;split
  · have:=h.cl;omega
  split
  ·
   show (_ ++ _:List Term4).length≤_
   rw [List.length_append,asg_closed];have:=h.cl;simp;omega
  rw [asg_closed];have:=h.cl;omega
theorem DraftI.small {n:Nat} {d:Draft} (h:DraftI n d):∀ a ∈ d.props,a.value.size≤256:=fun a ha=>by
 have:=(h.snd.pg a ha).2.1;unfold textB at this;rw [Bool.and_eq_true] at this;exact of_decide_eq_true this.2
theorem asg_7 {d:Draft} {t:Term4} {v:ByteArray} (h:t.key=7):asgD d t v=(if validB v=false then d else if t.op=3 then { d with tags:=[v] } else if t.op=4 then { d with tags:=putT d.tags v 16 } else { d with tags:=withoutT d.tags v }):=by
 unfold asgD;rw [if_neg (show ¬ t.key=6 by omega),if_pos h]
theorem asg_15 {d:Draft} {t:Term4} {v:ByteArray} (h:t.key=15):asgD d t v=(if ifaceB v then { d with nm:=v } else d):=by
 unfold asgD;rw [if_neg (show ¬ t.key=6 by omega),if_neg (show ¬ t.key=7 by omega),if_pos h]
theorem asg_16 {d:Draft} {t:Term4} {v:ByteArray} (h:t.key=16):asgD d t v=({ d with links:=linkGo t.op (if t.op=3∨t.op=6 then [] else d.links) (wordsT v) }):=by
 unfold asgD;rw [if_neg (show ¬ t.key=6 by omega),if_neg (show ¬ t.key=7 by omega),if_neg (show ¬ t.key=15 by omega),if_pos h]
theorem asg_17 {d:Draft} {t:Term4} {v:ByteArray} (h:t.key=17):asgD d t v=(if validB v then { d with owner:=v } else d):=by
 unfold asgD;rw [if_neg (show ¬ t.key=6 by omega),if_neg (show ¬ t.key=7 by omega),if_neg (show ¬ t.key=15 by omega),if_neg (show ¬ t.key=16 by omega),if_pos h]
theorem asg_18 {d:Draft} {t:Term4} {v:ByteArray} (h:t.key=18):asgD d t v=(if validB v then { d with group:=v } else d):=by
 unfold asgD;rw [if_neg (show ¬ t.key=6 by omega),if_neg (show ¬ t.key=7 by omega),if_neg (show ¬ t.key=15 by omega),if_neg (show ¬ t.key=16 by omega),if_neg (show ¬ t.key=17 by omega),if_pos h]
theorem asg_19 {d:Draft} {t:Term4} {v:ByteArray} (h:t.key=19):asgD d t v=(match octT v with | some n=>{ d with mode:=n } | none=>d):=by
 unfold asgD;rw [if_neg (show ¬ t.key=6 by omega),if_neg (show ¬ t.key=7 by omega),if_neg (show ¬ t.key=15 by omega),if_neg (show ¬ t.key=16 by omega),if_neg (show ¬ t.key=17 by omega),if_neg (show ¬ t.key=18 by omega),if_pos h];all_goals (cases octT v <;> rfl)
theorem asg_20 {d:Draft} {t:Term4} {v:ByteArray} (h:t.key=20):asgD d t v=({ d with run:=(if fullT v=true∧(if t.op≠4 then [] else d.run).length<16 then (if t.op≠4 then [] else d.run) ++ [v] else (if t.op≠4 then [] else d.run)) }):=by
 unfold asgD;rw [if_neg (show ¬ t.key=6 by omega),if_neg (show ¬ t.key=7 by omega),if_neg (show ¬ t.key=15 by omega),if_neg (show ¬ t.key=16 by omega),if_neg (show ¬ t.key=17 by omega),if_neg (show ¬ t.key=18 by omega),if_neg (show ¬ t.key=19 by omega),if_pos h]
theorem asg_21 {d:Draft} {t:Term4} {v:ByteArray} (h:t.key=21):asgD d t v=(if fullT v then { d with load:=putT d.load v 16 } else d):=by
 unfold asgD;rw [if_neg (show ¬ t.key=6 by omega),if_neg (show ¬ t.key=7 by omega),if_neg (show ¬ t.key=15 by omega),if_neg (show ¬ t.key=16 by omega),if_neg (show ¬ t.key=17 by omega),if_neg (show ¬ t.key=18 by omega),if_neg (show ¬ t.key=19 by omega),if_neg (show ¬ t.key=20 by omega),if_pos h]
theorem asg_22 {d:Draft} {t:Term4} {v:ByteArray} (h:t.key=22):asgD d t v=(match prioT v with | some n=>{ d with prio:=n } | none=>d):=by
 unfold asgD;rw [if_neg (show ¬ t.key=6 by omega),if_neg (show ¬ t.key=7 by omega),if_neg (show ¬ t.key=15 by omega),if_neg (show ¬ t.key=16 by omega),if_neg (show ¬ t.key=17 by omega),if_neg (show ¬ t.key=18 by omega),if_neg (show ¬ t.key=19 by omega),if_neg (show ¬ t.key=20 by omega),if_neg (show ¬ t.key=21 by omega),if_pos h];all_goals (cases prioT v <;> rfl)
theorem asg_o {d:Draft} {t:Term4} {v:ByteArray} (h:t.key≠6∧t.key≠7∧t.key≠15∧t.key≠16∧t.key≠17∧t.key≠18∧t.key≠19∧t.key≠20∧t.key≠21∧t.key≠22):asgD d t v=(d):=by
 unfold asgD;rw [if_neg (show ¬ t.key=6 by omega),if_neg (show ¬ t.key=7 by omega),if_neg (show ¬ t.key=15 by omega),if_neg (show ¬ t.key=16 by omega),if_neg (show ¬ t.key=17 by omega),if_neg (show ¬ t.key=18 by omega),if_neg (show ¬ t.key=19 by omega),if_neg (show ¬ t.key=20 by omega),if_neg (show ¬ t.key=21 by omega),if_neg (show ¬ t.key=22 by omega)]
theorem asg_6a {d:Draft} {t:Term4} {v:ByteArray} (h:t.key=6) (h1:t.op=4) (h2:v.toList.isEmpty=true):asgD d t v=d:=by
 unfold asgD;rw [if_pos h,if_pos ⟨h1,h2⟩]
theorem asg_6b {d:Draft} {t:Term4} {v:ByteArray} (h:t.key=6) (h1:t.op=4) (h2:v.toList.isEmpty=false) {og:Option ByteArray} {sv:ByteArray} (hg:getA d.props t.nm=og) (hs:og.getD ByteArray.empty=sv) (h3:sv.toList.isEmpty=false):asgD d t v=setD d t.nm (cutT ((sv ++ ⟨#[32]⟩) ++ v)):=by
 unfold asgD;rw [if_pos h,hg,hs,if_neg (by rintro ⟨_,h⟩;rw [h2] at h;cases h),if_pos ⟨h1,h3⟩]
theorem asg_6c {d:Draft} {t:Term4} {v:ByteArray} (h:t.key=6) (h0:t.op=4→v.toList.isEmpty=false) (h1:t.op=4→((getA d.props t.nm).getD ByteArray.empty).toList.isEmpty=true):asgD d t v=setD d t.nm v:=by
 unfold asgD;rw [if_pos h,if_neg (by rintro ⟨B,A⟩;rw [h0 B] at A;cases A),if_neg (by rintro ⟨B,A⟩;rw [h1 B] at A;cases A)]
theorem link_step {op:Int} {l ws:List ByteArray} {k:Nat} {x:ByteArray} (hx:ws[k]? = some x):linkGo op l (ws.drop k)=linkGo op (match cleanOf x with | none=>l | some s=>if op=5 then withoutT l s else putT l s 16) (ws.drop (k+1)):=by
 obtain ⟨B,A⟩:=List.getElem?_eq_some_iff.1 hx;rw [List.drop_eq_getElem_cons B,A,linkGo];all_goals rfl
theorem words_small {s x:ByteArray} (h:x ∈ wordsT s):x.size≤s.size:=by
 unfold wordsT at h;obtain ⟨l,A,rfl⟩:=List.mem_map.1 h;have:=splitOn_sizes 32 _ _ (List.mem_filter.1 A).1;rw [ba_size] at this;exact this
theorem words_len (s:ByteArray):(wordsT s).length≤s.size+1:=by
 rw [wordsT,List.length_map];have:=splitOn_count 32 s.data.toList;rw [ba_size] at this;exact Nat.le_trans (List.length_filter_le _ _) this
theorem clean_size {x s:ByteArray} (h:cleanOf x=some s):s.size≤1000:=by
 have:=clean_linkB h;unfold linkB at this;rw [Bool.and_eq_true] at this;have:=of_decide_eq_true this.1;omega
theorem sound_val {d:Draft} (h:SoundD d):∀ a ∈ d.props,a.value.size≤256:=fun a ha=>by
 have:=(h.pg a ha).2.1;unfold textB at this;rw [Bool.and_eq_true] at this;exact of_decide_eq_true this.2
def kID:ByteArray:=⟨#[73,68]⟩
def k13p:List Attr:=[⟨kID,⟨#[49]⟩⟩]
def k13t1:Term4:=⟨16,ByteArray.empty,4,ByteArray.empty⟩
def k13t2:Term4:=⟨19,ByteArray.empty,6,ByteArray.empty⟩
def k13t3:Term4:=⟨19,ByteArray.empty,3,ByteArray.empty⟩
def k13t4:Term4:=⟨6,kID,4,ByteArray.empty⟩
def k13w:ByteArray:=⟨#[98,32,97,32,46,46,47,99,32,98]⟩
def k13a:Draft:=beginD k13p
def k13b:Draft:=applyD k13a k13t1 k13w
def k13c:Draft:=applyD k13b k13t2 ⟨#[57]⟩
def k13d:Draft:=applyD k13c k13t3 ⟨#[48,54,54,48]⟩
def k13e:Draft:=applyD k13d k13t4 ⟨#[50]⟩
theorem k13_links:k13e.links=[⟨#[97]⟩,⟨#[98]⟩]:=by decide +kernel
theorem k13_mode:k13e.mode=384:=by decide +kernel
theorem k13_closed:k13e.closed.length=1:=by decide +kernel
theorem k13_props:k13e.props=[⟨kID,⟨#[49,32,50]⟩⟩]:=by decide +kernel
theorem k13_owner:k13e.owner=⟨#[114,111,111,116]⟩:=by decide +kernel
theorem k13_base:SoundD k13a:=begin_sound (base:=k13p) (by decide +kernel) (by decide +kernel) (fun a ha=>by
 rw [show k13p=[⟨kID,⟨#[49]⟩⟩] from rfl,List.mem_singleton] at ha;subst ha;exact ⟨by decide +kernel,by decide +kernel,by decide +kernel⟩)
structure PreD (d:Draft):Prop where
 snd:SoundD d
 ok:okDr d
 cl:d.closed.length≤100000
theorem PreD.apply {d:Draft} (h:PreD d) {t:Term4} (ht:t.key=6→keyB t.nm=true) {v:ByteArray} (hv:v.size≤maxLen) (hc:d.closed.length<100000):PreD (applyD d t v) where
 snd:=apply_sound h.snd ht v
 ok:=applyD_ok h.ok t hv
 cl:=by
  unfold applyD closeD;split
  · exact h.cl
  split
  ·
   show (_ ++ _:List Term4).length≤_
   rw [List.length_append,asg_closed];simp;omega
  rw [asg_closed];exact h.cl
theorem DraftI.pre {n:Nat} {d:Draft} (h:DraftI n d) (hn:n≤100000):PreD d:=⟨h.snd,h.ok,Nat.le_trans h.cl hn⟩
theorem k13_preA:PreD k13a:=⟨k13_base,begin_ok _,by decide +kernel⟩
theorem k13_preB:PreD k13b:=k13_preA.apply (by decide) (by decide) (by decide +kernel)
theorem k13_preC:PreD k13c:=k13_preB.apply (by decide) (by decide) (by decide +kernel)
theorem k13_preD:PreD k13d:=k13_preC.apply (by decide) (by decide) (by decide +kernel)
theorem k13_preE:PreD k13e:=k13_preD.apply (by decide +kernel) (by decide) (by decide +kernel)
theorem apply_closed {d:Draft} {t:Term4} {v:ByteArray} (h:closedB d t=true):applyD d t v=d:=if_pos h
theorem apply_open {d:Draft} {t:Term4} {v:ByteArray} (h:closedB d t=false):applyD d t v=closeD (asgD d t v) t:=if_neg (by rw [h];decide)
theorem close_no {d:Draft} {t:Term4} (h:t.op≠6):closeD d t=d:=if_neg h
theorem close_yes {d:Draft} {t:Term4} (h:t.op=6):closeD d t = { d with closed:=d.closed ++ [⟨t.key,t.nm,0,ByteArray.empty⟩] }:=if_pos h
structure Kp (P:Nat→Prop) (w w':World):Prop where
 os:w'.os=w.os
 tape:w'.tape=w.tape
 output:w'.output=w.output
 size:w.heap.size≤w'.heap.size
 block:∀ k,P k→w'.heap[k]? = w.heap[k]?
section
variable {P Q:Nat→Prop} {a b c w w':World}
theorem Kp.refl (P:Nat→Prop) (w:World):Kp P w w:=⟨rfl,rfl,rfl,Nat.le_refl _,fun _ _=>rfl⟩
theorem Kp.trans (h:Kp P a b) (k:Kp P b c):Kp P a c:=⟨k.os.trans h.os,k.tape.trans h.tape,k.output.trans h.output,Nat.le_trans h.size k.size,fun i hi=>(k.block i hi).trans (h.block i hi)⟩
theorem Kp.mono (h:Kp P a b) (hQ:∀ k,Q k→P k):Kp Q a b:=⟨h.os,h.tape,h.output,h.size,fun k hk=>h.block k (hQ k hk)⟩
theorem Kp.of_grown {row:Option Nat} (hg:w.grownBy w' row) (hP:∀ k,P k→k<w.heap.size∧some k≠row):Kp P w w':=⟨hg.os,hg.tape,hg.output,hg.size,fun k hk=>hg.block k (hP k hk).1 (hP k hk).2⟩
theorem Kp.of_below (hb:Below w.heap.size w w') (hP:∀ k,P k→k<w.heap.size):Kp P w w':=⟨hb.os,hb.tape,hb.output,hb.size,fun k hk=>hb.block k (hP k hk)⟩
theorem Kp.below {B:Nat} (h:Kp P w w') (hP:∀ k,k<B→P k):Below B w w':=⟨h.os,h.tape,h.output,h.size,fun k hk=>h.block k (hP k hk)⟩
theorem Kp.set_ (h:Kp P a w) {g:Nat} (hg:¬ P g) (j:Nat) (v:Value):Kp P a (w.setCell ⟨g,j,none⟩ v) :=
 h.trans ⟨rfl,rfl,rfl,by simp,fun k hk=>Below.heap_setCell _ _ _ _ (fun e=>hg (by have e:k=g:=e;rw [← e];exact hk))⟩
theorem Kp.next (h:Kp P a w) (hb:Below w.heap.size w w') (hP:∀ k,P k→k<w.heap.size):Kp P a w':=h.trans (Kp.of_below hb hP)
theorem BoxL.kp {g:Nat} {cs:List Value} (h:BoxL w g cs) (k:Kp P w w') (hg:P g):BoxL w' g cs:=by
 obtain ⟨C,D,A⟩:=h;have B:=k.block g hg;exact ⟨fun j u hu=>(cell_heap B j).trans (C j u hu),fun j=>(frozen_heap B j).trans (D j),Nat.lt_of_lt_of_le A k.size⟩
theorem Kp.cell (h:Kp P w w') {g j:Nat} (hg:P g):w'.cell? ⟨g,j,none⟩=w.cell? ⟨g,j,none⟩:=cell_heap (h.block g hg) j
theorem SlS.kp {α:Type} [RepS α] {S:Nat→Prop} {A:Option Addr} {c:Nat} {l:List α} (h:SlS w S A c l) (k:Kp P w w') (hS:∀ b,S b→P b):SlS w' S A c l :=
 SlS.mono (fun _ h=>h) (fun b o u hb hu=>(k.cell (hS b hb)).trans hu) h
end
structure Out (P:Nat→Prop) (w:World) (X:Nat) (v0 v1 v2 v3 v4 v5:Value):Prop where
 lt:∀ k,P k→k<w.heap.size
 x:¬ P X
 q0:∀ k,v0.ownBlock=some k→¬ P k
 q1:∀ k,v1.ownBlock=some k→¬ P k
 q2:∀ k,v2.ownBlock=some k→¬ P k
 q3:∀ k,v3.ownBlock=some k→¬ P k
 q4:∀ k,v4.ownBlock=some k→¬ P k
 q5:∀ k,v5.ownBlock=some k→¬ P k
theorem Out.below {P:Nat→Prop} {w w':World} {X:Nat} {v0 v1 v2 v3 v4 v5:Value} (h:Out P w X v0 v1 v2 v3 v4 v5) (hs:w.heap.size≤w'.heap.size):Out P w' X v0 v1 v2 v3 v4 v5 :=
 { h with lt:=fun k hk=>Nat.lt_of_lt_of_le (h.lt k hk) hs }
def EdQ (TA TS TT:TypeId) (P:Nat→Prop) (w:World) (base X:Nat) (d:Draft):Prop:=∃ v0 v1 v2 v3 v4 v5,BoxL w X (drC d v0 v1 v2 v3 v4 v5)∧EdR TA TS TT w base X d v0 v1 v2 v3 v4 v5∧Out P w X v0 v1 v2 v3 v4 v5
def EdK (TA TS TT:TypeId) (P:Nat→Prop) (w:World) (base X:Nat) (d:Draft) (W:World):Prop:=Kp P w W∧EdQ TA TS TT P W base X d
def EPost (TA TS TT:TypeId) (P:Nat→Prop) (base X:Nat) (d:Draft) (w:World) (e:Ending) (w':World):Prop:=e=.returned (.tuple #[])∧EdK TA TS TT P w base X d w'
def EdO (TA TS TT:TypeId) (P:Nat→Prop) (w:World) (base X:Nat) (d:Draft) (k:DH) (W:World):Prop:=Kp P w W∧BoxL W X (drV d k)∧
 EdR TA TS TT W base X d (.slice k.a0 d.props.length k.c0) (.slice k.a1 d.tags.length k.c1) (.slice k.a2 d.links.length k.c2) (.slice k.a3 d.run.length k.c3) (.slice k.a4 d.load.length k.c4) (.slice k.a5 d.closed.length k.c5)∧
 Out P W X (.slice k.a0 d.props.length k.c0) (.slice k.a1 d.tags.length k.c1) (.slice k.a2 d.links.length k.c2) (.slice k.a3 d.run.length k.c3) (.slice k.a4 d.load.length k.c4) (.slice k.a5 d.closed.length k.c5)∧DSl W W.heap.size d k
def RowPost {α:Type} [RepS α] (T:TypeId) (base:Nat) (v:Value) (l:List α) (w:World) (e:Ending) (w':World):Prop:=∃ v',e=.returned v'∧OwnsS (fun _=>False) w' base T v' l∧w.grownBy w' v.ownBlock∧∀ k,v'.ownBlock=some k→v.ownBlock=some k∨w.heap.size≤k
theorem RowPost.same {α:Type} [RepS α] {T:TypeId} {base:Nat} {v:Value} {l:List α} {w w':World} (h:OwnsS (fun _=>False) w base T v l) (hb:Below w.heap.size w w'):RowPost T base v l w (.returned v) w' :=
 ⟨v,rfl,h.below hb,grown_wide (grown_none hb),fun k hk=>.inl hk⟩
section
variable {TA TS TT:TypeId} {P Q:Nat→Prop} {w w' w1:World} {base X:Nat} {d:Draft} {v0 v1 v2 v3 v4 v5:Value}
theorem EdQ.below (h:EdQ TA TS TT P w base X d) (hb:Below w.heap.size w w'):EdQ TA TS TT P w' base X d:=by
 obtain ⟨D,E,F,G,H,I,A,B,C⟩:=h;exact ⟨D,E,F,G,H,I,A.kept (grown_none hb) (fun e=>by cases e),B.below hb,C.below hb.size⟩
theorem EdQ.lt (h:EdQ TA TS TT P w base X d):∀ k,P k→k<w.heap.size:=by
 obtain ⟨D,E,F,G,H,I,B,C,A⟩:=h;exact A.lt
theorem EdQ.more (h:EdQ TA TS TT P w base X d) (hb:Below w.heap.size w w') (hQ:∀ k,Q k→P k∨(w.heap.size≤k∧k<w'.heap.size)):EdQ TA TS TT Q w' base X d:=by
 obtain ⟨D,E,F,G,H,I,C,A,B⟩:=h;refine ⟨D,E,F,G,H,I,C.kept (grown_none hb) (fun e=>by cases e),A.below hb,⟨fun k hk=>?_,fun hk=>?_,fun k hk hq=>?_,fun k hk hq=>?_,fun k hk hq=>?_,fun k hk hq=>?_,fun k hk hq=>?_,fun k hk hq=>?_⟩⟩
 ·
  rcases hQ k hk with h | h
  · exact Nat.lt_of_lt_of_le (B.lt k h) hb.size
  exact h.2
 ·
  rcases hQ X hk with h | h
  · exact B.x h
  have:=A.xl;omega
 ·
  rcases hQ k hq with h | h
  · exact B.q0 k hk h
  have:=(A.o0.lt k hk).2;omega
 ·
  rcases hQ k hq with h | h
  · exact B.q1 k hk h
  have:=(A.o1.lt k hk).2;omega
 ·
  rcases hQ k hq with h | h
  · exact B.q2 k hk h
  have:=(A.o2.lt k hk).2;omega
 ·
  rcases hQ k hq with h | h
  · exact B.q3 k hk h
  have:=(A.o3.lt k hk).2;omega
 ·
  rcases hQ k hq with h | h
  · exact B.q4 k hk h
  have:=(A.o4.lt k hk).2;omega
 rcases hQ k hq with h | h
 · exact B.q5 k hk h
 have:=(A.o5.lt k hk).2;omega
theorem EdQ.less (h:EdQ TA TS TT P w base X d) (hQ:∀ k,Q k→P k):EdQ TA TS TT Q w base X d:=h.more (Below.refl _ _) (fun k hk=>.inl (hQ k hk))
theorem EdQ.ok (h:EdQ TA TS TT P w base X d):okDr d:=by
 obtain ⟨D,E,F,G,H,I,B,A,C⟩:=h;exact A.ok
theorem EdQ.free {N:Nat→Prop} (h:EdQ TA TS TT P w base X d) (hN:∀ x,N x→x<base):∃ k:DH,BoxL w X (drV d k)∧DFr N w d k:=by
 obtain ⟨F,G,H,I,J,K,A,B,E⟩:=h;obtain ⟨k,C,D⟩:=B.free hN;exact ⟨k,C ▸ A,D⟩
theorem EdQ.row0 {l:List Attr} {v:Value} (hb:BoxL w X (drC d v0 v1 v2 v3 v4 v5)) (h:EdR TA TS TT w base X d v0 v1 v2 v3 v4 v5) (hq:Out P w X v0 v1 v2 v3 v4 v5) (ho:OwnsS (fun _=>False) w1 base TA v l) (hg:w.grownBy w1 v0.ownBlock) (hn:∀ k,v.ownBlock=some k→v0.ownBlock=some k∨w.heap.size≤k) :
  EdQ TA TS TT P (w1.setCell ⟨X,0,none⟩ v) base X { d with props:=l }∧Kp P w (w1.setCell ⟨X,0,none⟩ v):=by
 have B:BoxL w1 X (drC d v0 v1 v2 v3 v4 v5):=hb.kept hg (fun e=>h.x0 e.symm);have A:=grown_one w1 X 0 v;refine ⟨⟨v,v1,v2,v3,v4,v5,B.set_ (j:=0) (by show 0<14;omega) v,(h.set0 ho hg hn).self A,⟨fun k hk=>Nat.lt_of_lt_of_le (hq.lt k hk) (Nat.le_trans hg.size A.size),hq.x,?_,hq.q1,hq.q2,hq.q3,hq.q4,hq.q5⟩⟩,(Kp.of_grown hg (fun k hk=>⟨hq.lt k hk,fun e=>hq.q0 k e.symm hk⟩)).set_ hq.x 0 v⟩;intro k hk hp;rcases hn k hk with h1 | h1
 · exact hq.q0 k h1 hp
 have:=hq.lt k hp;omega
theorem EdQ.row1 {l:List ByteArray} {v:Value} (hb:BoxL w X (drC d v0 v1 v2 v3 v4 v5)) (h:EdR TA TS TT w base X d v0 v1 v2 v3 v4 v5) (hq:Out P w X v0 v1 v2 v3 v4 v5) (ho:OwnsS (fun _=>False) w1 base TS v l) (hg:w.grownBy w1 v1.ownBlock) (hn:∀ k,v.ownBlock=some k→v1.ownBlock=some k∨w.heap.size≤k) :
  EdQ TA TS TT P (w1.setCell ⟨X,1,none⟩ v) base X { d with tags:=l }∧Kp P w (w1.setCell ⟨X,1,none⟩ v):=by
 have B:BoxL w1 X (drC d v0 v1 v2 v3 v4 v5):=hb.kept hg (fun e=>h.x1 e.symm);have A:=grown_one w1 X 1 v;refine ⟨⟨v0,v,v2,v3,v4,v5,B.set_ (j:=1) (by show 1<14;omega) v,(h.set1 ho hg hn).self A,⟨fun k hk=>Nat.lt_of_lt_of_le (hq.lt k hk) (Nat.le_trans hg.size A.size),hq.x,hq.q0,?_,hq.q2,hq.q3,hq.q4,hq.q5⟩⟩,(Kp.of_grown hg (fun k hk=>⟨hq.lt k hk,fun e=>hq.q1 k e.symm hk⟩)).set_ hq.x 1 v⟩;intro k hk hp;rcases hn k hk with h1 | h1
 · exact hq.q1 k h1 hp
 have:=hq.lt k hp;omega
theorem EdQ.row2 {l:List ByteArray} {v:Value} (hb:BoxL w X (drC d v0 v1 v2 v3 v4 v5)) (h:EdR TA TS TT w base X d v0 v1 v2 v3 v4 v5) (hq:Out P w X v0 v1 v2 v3 v4 v5) (ho:OwnsS (fun _=>False) w1 base TS v l) (hg:w.grownBy w1 v2.ownBlock) (hn:∀ k,v.ownBlock=some k→v2.ownBlock=some k∨w.heap.size≤k) :
  EdQ TA TS TT P (w1.setCell ⟨X,2,none⟩ v) base X { d with links:=l }∧Kp P w (w1.setCell ⟨X,2,none⟩ v):=by
 have B:BoxL w1 X (drC d v0 v1 v2 v3 v4 v5):=hb.kept hg (fun e=>h.x2 e.symm);have A:=grown_one w1 X 2 v;refine ⟨⟨v0,v1,v,v3,v4,v5,B.set_ (j:=2) (by show 2<14;omega) v,(h.set2 ho hg hn).self A,⟨fun k hk=>Nat.lt_of_lt_of_le (hq.lt k hk) (Nat.le_trans hg.size A.size),hq.x,hq.q0,hq.q1,?_,hq.q3,hq.q4,hq.q5⟩⟩,(Kp.of_grown hg (fun k hk=>⟨hq.lt k hk,fun e=>hq.q2 k e.symm hk⟩)).set_ hq.x 2 v⟩;intro k hk hp;rcases hn k hk with h1 | h1
 · exact hq.q2 k h1 hp
 have:=hq.lt k hp;omega
theorem EdQ.row3 {l:List ByteArray} {v:Value} (hb:BoxL w X (drC d v0 v1 v2 v3 v4 v5)) (h:EdR TA TS TT w base X d v0 v1 v2 v3 v4 v5) (hq:Out P w X v0 v1 v2 v3 v4 v5) (ho:OwnsS (fun _=>False) w1 base TS v l) (hg:w.grownBy w1 v3.ownBlock) (hn:∀ k,v.ownBlock=some k→v3.ownBlock=some k∨w.heap.size≤k) :
  EdQ TA TS TT P (w1.setCell ⟨X,3,none⟩ v) base X { d with run:=l }∧Kp P w (w1.setCell ⟨X,3,none⟩ v):=by
 have B:BoxL w1 X (drC d v0 v1 v2 v3 v4 v5):=hb.kept hg (fun e=>h.x3 e.symm);have A:=grown_one w1 X 3 v;refine ⟨⟨v0,v1,v2,v,v4,v5,B.set_ (j:=3) (by show 3<14;omega) v,(h.set3 ho hg hn).self A,⟨fun k hk=>Nat.lt_of_lt_of_le (hq.lt k hk) (Nat.le_trans hg.size A.size),hq.x,hq.q0,hq.q1,hq.q2,?_,hq.q4,hq.q5⟩⟩,(Kp.of_grown hg (fun k hk=>⟨hq.lt k hk,fun e=>hq.q3 k e.symm hk⟩)).set_ hq.x 3 v⟩;intro k hk hp;rcases hn k hk with h1 | h1
 · exact hq.q3 k h1 hp
 have:=hq.lt k hp;omega
theorem EdQ.row4 {l:List ByteArray} {v:Value} (hb:BoxL w X (drC d v0 v1 v2 v3 v4 v5)) (h:EdR TA TS TT w base X d v0 v1 v2 v3 v4 v5) (hq:Out P w X v0 v1 v2 v3 v4 v5) (ho:OwnsS (fun _=>False) w1 base TS v l) (hg:w.grownBy w1 v4.ownBlock) (hn:∀ k,v.ownBlock=some k→v4.ownBlock=some k∨w.heap.size≤k) :
  EdQ TA TS TT P (w1.setCell ⟨X,4,none⟩ v) base X { d with load:=l }∧Kp P w (w1.setCell ⟨X,4,none⟩ v):=by
 have B:BoxL w1 X (drC d v0 v1 v2 v3 v4 v5):=hb.kept hg (fun e=>h.x4 e.symm);have A:=grown_one w1 X 4 v;refine ⟨⟨v0,v1,v2,v3,v,v5,B.set_ (j:=4) (by show 4<14;omega) v,(h.set4 ho hg hn).self A,⟨fun k hk=>Nat.lt_of_lt_of_le (hq.lt k hk) (Nat.le_trans hg.size A.size),hq.x,hq.q0,hq.q1,hq.q2,hq.q3,?_,hq.q5⟩⟩,(Kp.of_grown hg (fun k hk=>⟨hq.lt k hk,fun e=>hq.q4 k e.symm hk⟩)).set_ hq.x 4 v⟩;intro k hk hp;rcases hn k hk with h1 | h1
 · exact hq.q4 k h1 hp
 have:=hq.lt k hp;omega
theorem EdQ.row5 {l:List Term4} {v:Value} (hb:BoxL w X (drC d v0 v1 v2 v3 v4 v5)) (h:EdR TA TS TT w base X d v0 v1 v2 v3 v4 v5) (hq:Out P w X v0 v1 v2 v3 v4 v5) (ho:OwnsS (fun _=>False) w1 base TT v l) (hg:w.grownBy w1 v5.ownBlock) (hn:∀ k,v.ownBlock=some k→v5.ownBlock=some k∨w.heap.size≤k) :
  EdQ TA TS TT P (w1.setCell ⟨X,13,none⟩ v) base X { d with closed:=l }∧Kp P w (w1.setCell ⟨X,13,none⟩ v):=by
 have B:BoxL w1 X (drC d v0 v1 v2 v3 v4 v5):=hb.kept hg (fun e=>h.x5 e.symm);have A:=grown_one w1 X 13 v;refine ⟨⟨v0,v1,v2,v3,v4,v,B.set_ (j:=13) (by show 13<14;omega) v,(h.set5 ho hg hn).self A,⟨fun k hk=>Nat.lt_of_lt_of_le (hq.lt k hk) (Nat.le_trans hg.size A.size),hq.x,hq.q0,hq.q1,hq.q2,hq.q3,hq.q4,?_⟩⟩,(Kp.of_grown hg (fun k hk=>⟨hq.lt k hk,fun e=>hq.q5 k e.symm hk⟩)).set_ hq.x 13 v⟩;intro k hk hp;rcases hn k hk with h1 | h1
 · exact hq.q5 k h1 hp
 have:=hq.lt k hp;omega
theorem EdQ.f_nm {x:ByteArray} (h:EdQ TA TS TT P w base X d) (hok:okDr { d with nm:=x }):EdQ TA TS TT P (w.setCell ⟨X,5,none⟩ (.string x)) base X { d with nm:=x }∧Kp P w (w.setCell ⟨X,5,none⟩ (.string x)):=by
 obtain ⟨E,F,G,H,I,J,C,D,B⟩:=h;have A:=grown_one w X 5 (.string x);exact ⟨⟨E,F,G,H,I,J,C.set_ (j:=5) (by show 5<14;omega) _,{ D.self A with ok:=hok },B.below A.size⟩,(Kp.refl P w).set_ B.x _ _⟩
theorem EdQ.f_prio {x:Int} (h:EdQ TA TS TT P w base X d) (hok:okDr { d with prio:=x }):EdQ TA TS TT P (w.setCell ⟨X,6,none⟩ (.int .i64 x)) base X { d with prio:=x }∧Kp P w (w.setCell ⟨X,6,none⟩ (.int .i64 x)):=by
 obtain ⟨E,F,G,H,I,J,C,D,B⟩:=h;have A:=grown_one w X 6 (.int .i64 x);exact ⟨⟨E,F,G,H,I,J,C.set_ (j:=6) (by show 6<14;omega) _,{ D.self A with ok:=hok },B.below A.size⟩,(Kp.refl P w).set_ B.x _ _⟩
theorem EdQ.f_owner {x:ByteArray} (h:EdQ TA TS TT P w base X d) (hok:okDr { d with owner:=x }):EdQ TA TS TT P (w.setCell ⟨X,7,none⟩ (.string x)) base X { d with owner:=x }∧Kp P w (w.setCell ⟨X,7,none⟩ (.string x)):=by
 obtain ⟨E,F,G,H,I,J,C,D,B⟩:=h;have A:=grown_one w X 7 (.string x);exact ⟨⟨E,F,G,H,I,J,C.set_ (j:=7) (by show 7<14;omega) _,{ D.self A with ok:=hok },B.below A.size⟩,(Kp.refl P w).set_ B.x _ _⟩
theorem EdQ.f_group {x:ByteArray} (h:EdQ TA TS TT P w base X d) (hok:okDr { d with group:=x }):EdQ TA TS TT P (w.setCell ⟨X,8,none⟩ (.string x)) base X { d with group:=x }∧Kp P w (w.setCell ⟨X,8,none⟩ (.string x)):=by
 obtain ⟨E,F,G,H,I,J,C,D,B⟩:=h;have A:=grown_one w X 8 (.string x);exact ⟨⟨E,F,G,H,I,J,C.set_ (j:=8) (by show 8<14;omega) _,{ D.self A with ok:=hok },B.below A.size⟩,(Kp.refl P w).set_ B.x _ _⟩
theorem EdQ.f_mode {x:Int} (h:EdQ TA TS TT P w base X d) (hok:okDr { d with mode:=x }):EdQ TA TS TT P (w.setCell ⟨X,9,none⟩ (.int .i64 x)) base X { d with mode:=x }∧Kp P w (w.setCell ⟨X,9,none⟩ (.int .i64 x)):=by
 obtain ⟨E,F,G,H,I,J,C,D,B⟩:=h;have A:=grown_one w X 9 (.int .i64 x);exact ⟨⟨E,F,G,H,I,J,C.set_ (j:=9) (by show 9<14;omega) _,{ D.self A with ok:=hok },B.below A.size⟩,(Kp.refl P w).set_ B.x _ _⟩
theorem EdR.mk6 {s1 s2 s3 s4 s5:Nat} (h0:OwnsS (fun _=>False) w base TA v0 d.props) (h5:OwnsS (fun _=>False) w base TT v5 d.closed) (h1:OwnsS (fun _=>False) w base TS v1 d.tags) (h2:OwnsS (fun _=>False) w base TS v2 d.links) (h3:OwnsS (fun _=>False) w base TS v3 d.run) (h4:OwnsS (fun _=>False) w base TS v4 d.load)
  (r0:∀ k,v0.ownBlock=some k→base≤k∧k<s5) (r5:∀ k,v5.ownBlock=some k→s5≤k∧k<s1) (r1:∀ k,v1.ownBlock=some k→s1≤k∧k<s2) (r2:∀ k,v2.ownBlock=some k→s2≤k∧k<s3) (r3:∀ k,v3.ownBlock=some k→s3≤k∧k<s4) (r4:∀ k,v4.ownBlock=some k→s4≤k∧k<X)
  (hs5:base≤s5) (hs1:s5≤s1) (hs2:s1≤s2) (hs3:s2≤s3) (hs4:s3≤s4) (hX:s4≤X) (hx:X<w.heap.size) (hok:okDr d):EdR TA TS TT w base X d v0 v1 v2 v3 v4 v5 where
 o0:=h0
 o1:=h1
 o2:=h2
 o3:=h3
 o4:=h4
 o5:=h5
 p01:=fun k hu hv=>by have:=r0 k hu;have:=r1 k hv;omega
 p02:=fun k hu hv=>by have:=r0 k hu;have:=r2 k hv;omega
 p03:=fun k hu hv=>by have:=r0 k hu;have:=r3 k hv;omega
 p04:=fun k hu hv=>by have:=r0 k hu;have:=r4 k hv;omega
 p05:=fun k hu hv=>by have:=r0 k hu;have:=r5 k hv;omega
 p12:=fun k hu hv=>by have:=r1 k hu;have:=r2 k hv;omega
 p13:=fun k hu hv=>by have:=r1 k hu;have:=r3 k hv;omega
 p14:=fun k hu hv=>by have:=r1 k hu;have:=r4 k hv;omega
 p15:=fun k hu hv=>by have:=r1 k hu;have:=r5 k hv;omega
 p23:=fun k hu hv=>by have:=r2 k hu;have:=r3 k hv;omega
 p24:=fun k hu hv=>by have:=r2 k hu;have:=r4 k hv;omega
 p25:=fun k hu hv=>by have:=r2 k hu;have:=r5 k hv;omega
 p34:=fun k hu hv=>by have:=r3 k hu;have:=r4 k hv;omega
 p35:=fun k hu hv=>by have:=r3 k hu;have:=r5 k hv;omega
 p45:=fun k hu hv=>by have:=r4 k hu;have:=r5 k hv;omega
 x0:=fun e=>by have:=r0 X e;omega
 x1:=fun e=>by have:=r1 X e;omega
 x2:=fun e=>by have:=r2 X e;omega
 x3:=fun e=>by have:=r3 X e;omega
 x4:=fun e=>by have:=r4 X e;omega
 x5:=fun e=>by have:=r5 X e;omega
 bx:=by omega
 xl:=hx
 ok:=hok
theorem EdQ.open (h:EdQ TA TS TT P w base X d):∃ k,EdO TA TS TT P w base X d k w:=by
 obtain ⟨v0,v1,v2,v3,v4,v5,U,A,V⟩:=h;obtain ⟨B,H,N,W⟩:=A.o0.sl;obtain ⟨C,I,O,Y⟩:=A.o1.sl;obtain ⟨D,J,Q,Z⟩:=A.o2.sl;obtain ⟨E,K,R,s3⟩:=A.o3.sl;obtain ⟨F,L,S,s4⟩:=A.o4.sl;obtain ⟨G,M,T,s5⟩:=A.o5.sl;subst N O Q R S T;exact ⟨⟨B,H,C,I,D,J,E,K,F,L,G,M⟩,Kp.refl _ _,U,A,V,W,Y,Z,s3,s4,s5,A.ok⟩
theorem EdO.kq {k:DH} (h:EdO TA TS TT P w base X d k w'):EdK TA TS TT P w base X d w':=⟨h.1,_,_,_,_,_,_,h.2.1,h.2.2.1,h.2.2.2.1⟩
theorem EdO.below {k:DH} (h:EdO TA TS TT P w base X d k w1) (hb:Below w1.heap.size w1 w'):EdO TA TS TT P w base X d k w' :=
 ⟨h.1.next hb h.2.2.2.1.lt,h.2.1.kept (grown_none hb) (fun e=>by cases e),h.2.2.1.below hb,h.2.2.2.1.below hb.size,h.2.2.2.2.next (Nat.le_refl _) hb⟩
theorem EdK.below (h:EdK TA TS TT P w base X d w1) (hb:Below w1.heap.size w1 w'):EdK TA TS TT P w base X d w':=⟨h.1.next hb h.2.lt,h.2.below hb⟩
theorem EdK.seq {d':Draft} (h:EdK TA TS TT P w base X d w1) (k:EdK TA TS TT P w1 base X d' w'):EdK TA TS TT P w base X d' w':=⟨h.1.trans k.1,k.2⟩
theorem EdO.seq {d':Draft} {k:DH} (h:EdO TA TS TT P w base X d k w1) (h2:EdK TA TS TT P w1 base X d' w'):EdK TA TS TT P w base X d' w':=⟨h.1.trans h2.1,h2.2⟩
theorem EdK.open (h:EdK TA TS TT P w base X d w1):∃ k,EdO TA TS TT P w base X d k w1:=by
 obtain ⟨k,B,A⟩:=h.2.open;exact ⟨k,h.1,A⟩
theorem EdQ.start (h:EdQ TA TS TT P w base X d):EdK TA TS TT P w base X d w:=⟨Kp.refl _ _,h⟩
theorem EdO.row0 {k:DH} {W:World} {l:List Attr} {v:Value} (h:EdO TA TS TT P w base X d k W) (ho:OwnsS (fun _=>False) w1 base TA v l) (hg:W.grownBy w1 (.slice k.a0 d.props.length k.c0:Value).ownBlock) (hn:∀ q,v.ownBlock=some q→(.slice k.a0 d.props.length k.c0:Value).ownBlock=some q∨W.heap.size≤q) :
  EdK TA TS TT P w base X { d with props:=l } (w1.setCell ⟨X,0,none⟩ v):=by
 obtain ⟨A,B⟩:=EdQ.row0 h.2.1 h.2.2.1 h.2.2.2.1 ho hg hn;exact ⟨h.1.trans B,A⟩
theorem EdO.row1 {k:DH} {W:World} {l:List ByteArray} {v:Value} (h:EdO TA TS TT P w base X d k W) (ho:OwnsS (fun _=>False) w1 base TS v l) (hg:W.grownBy w1 (.slice k.a1 d.tags.length k.c1:Value).ownBlock) (hn:∀ q,v.ownBlock=some q→(.slice k.a1 d.tags.length k.c1:Value).ownBlock=some q∨W.heap.size≤q) :
  EdK TA TS TT P w base X { d with tags:=l } (w1.setCell ⟨X,1,none⟩ v):=by
 obtain ⟨A,B⟩:=EdQ.row1 h.2.1 h.2.2.1 h.2.2.2.1 ho hg hn;exact ⟨h.1.trans B,A⟩
theorem EdO.row2 {k:DH} {W:World} {l:List ByteArray} {v:Value} (h:EdO TA TS TT P w base X d k W) (ho:OwnsS (fun _=>False) w1 base TS v l) (hg:W.grownBy w1 (.slice k.a2 d.links.length k.c2:Value).ownBlock) (hn:∀ q,v.ownBlock=some q→(.slice k.a2 d.links.length k.c2:Value).ownBlock=some q∨W.heap.size≤q) :
  EdK TA TS TT P w base X { d with links:=l } (w1.setCell ⟨X,2,none⟩ v):=by
 obtain ⟨A,B⟩:=EdQ.row2 h.2.1 h.2.2.1 h.2.2.2.1 ho hg hn;exact ⟨h.1.trans B,A⟩
theorem EdO.row3 {k:DH} {W:World} {l:List ByteArray} {v:Value} (h:EdO TA TS TT P w base X d k W) (ho:OwnsS (fun _=>False) w1 base TS v l) (hg:W.grownBy w1 (.slice k.a3 d.run.length k.c3:Value).ownBlock) (hn:∀ q,v.ownBlock=some q→(.slice k.a3 d.run.length k.c3:Value).ownBlock=some q∨W.heap.size≤q) :
  EdK TA TS TT P w base X { d with run:=l } (w1.setCell ⟨X,3,none⟩ v):=by
 obtain ⟨A,B⟩:=EdQ.row3 h.2.1 h.2.2.1 h.2.2.2.1 ho hg hn;exact ⟨h.1.trans B,A⟩
theorem EdO.row4 {k:DH} {W:World} {l:List ByteArray} {v:Value} (h:EdO TA TS TT P w base X d k W) (ho:OwnsS (fun _=>False) w1 base TS v l) (hg:W.grownBy w1 (.slice k.a4 d.load.length k.c4:Value).ownBlock) (hn:∀ q,v.ownBlock=some q→(.slice k.a4 d.load.length k.c4:Value).ownBlock=some q∨W.heap.size≤q) :
  EdK TA TS TT P w base X { d with load:=l } (w1.setCell ⟨X,4,none⟩ v):=by
 obtain ⟨A,B⟩:=EdQ.row4 h.2.1 h.2.2.1 h.2.2.2.1 ho hg hn;exact ⟨h.1.trans B,A⟩
theorem EdO.row5 {k:DH} {W:World} {l:List Term4} {v:Value} (h:EdO TA TS TT P w base X d k W) (ho:OwnsS (fun _=>False) w1 base TT v l) (hg:W.grownBy w1 (.slice k.a5 d.closed.length k.c5:Value).ownBlock) (hn:∀ q,v.ownBlock=some q→(.slice k.a5 d.closed.length k.c5:Value).ownBlock=some q∨W.heap.size≤q) :
  EdK TA TS TT P w base X { d with closed:=l } (w1.setCell ⟨X,13,none⟩ v):=by
 obtain ⟨A,B⟩:=EdQ.row5 h.2.1 h.2.2.1 h.2.2.2.1 ho hg hn;exact ⟨h.1.trans B,A⟩
theorem EdK.f_nm {x:ByteArray} (h:EdK TA TS TT P w base X d w1) (hok:okDr { d with nm:=x }):EdK TA TS TT P w base X { d with nm:=x } (w1.setCell ⟨X,5,none⟩ (.string x)):=by
 obtain ⟨A,B⟩:=h.2.f_nm hok;exact ⟨h.1.trans B,A⟩
theorem EdK.f_prio {x:Int} (h:EdK TA TS TT P w base X d w1) (hok:okDr { d with prio:=x }):EdK TA TS TT P w base X { d with prio:=x } (w1.setCell ⟨X,6,none⟩ (.int .i64 x)):=by
 obtain ⟨A,B⟩:=h.2.f_prio hok;exact ⟨h.1.trans B,A⟩
theorem EdK.f_owner {x:ByteArray} (h:EdK TA TS TT P w base X d w1) (hok:okDr { d with owner:=x }):EdK TA TS TT P w base X { d with owner:=x } (w1.setCell ⟨X,7,none⟩ (.string x)):=by
 obtain ⟨A,B⟩:=h.2.f_owner hok;exact ⟨h.1.trans B,A⟩
theorem EdK.f_group {x:ByteArray} (h:EdK TA TS TT P w base X d w1) (hok:okDr { d with group:=x }):EdK TA TS TT P w base X { d with group:=x } (w1.setCell ⟨X,8,none⟩ (.string x)):=by
 obtain ⟨A,B⟩:=h.2.f_group hok;exact ⟨h.1.trans B,A⟩
theorem EdK.f_mode {x:Int} (h:EdK TA TS TT P w base X d w1) (hok:okDr { d with mode:=x }):EdK TA TS TT P w base X { d with mode:=x } (w1.setCell ⟨X,9,none⟩ (.int .i64 x)):=by
 obtain ⟨A,B⟩:=h.2.f_mode hok;exact ⟨h.1.trans B,A⟩
end
theorem emptiesR {x:ByteArray} {b:Bool} (h:x.toList.isEmpty=b):(x.toList == [])=b∧(x.toList == (⟨#[]⟩:ByteArray).toList)=b:=by
 have A:(x.toList == [])=b:=by rw [← h];cases x.toList <;> rfl
 exact ⟨A,by rw [show (⟨#[]⟩:ByteArray).toList=[] by decide +kernel];exact A⟩
theorem bs_pos {l:List ByteArray} (h:ascL l=true) (x:ByteArray):Lib.bsGo (fun t=>Op.bytesLess (l.getD t x).toList x.toList) l.length 0 l.length=posT l x:=by
 have B:=posT_spec h x;have D:=posT_le l x;refine Lib.bsGo_spec _ _ (fun t ht=>?_) (fun t ht=>?_) _ _ _ (by omega) (Nat.zero_le _) D
 ·
  have A:t<l.length:=by omega
  have:=(B t _ (List.getElem?_eq_getElem A)).2 ht;simpa [List.getD,List.getElem?_eq_getElem A,strLt] using this
 by_cases A:t<l.length
 ·
  have C:strLt l[t] x=false:=by
   cases hc:strLt l[t] x with
   | false=>rfl
   | true=>have:=(B t _ (List.getElem?_eq_getElem A)).1 hc;omega
  simpa [List.getD,List.getElem?_eq_getElem A,strLt] using C
 have:=strLt_irr x;simpa [List.getD,List.getElem?_eq_none (show l.length≤t by omega),strLt] using this
theorem bs_has (l:List ByteArray) (x:ByteArray):decide (posT l x<l.length∧l.getD (posT l x) x=x)=hasT l x:=by
 unfold hasT;by_cases hl:posT l x<l.length
 · simp [List.getD,List.getElem?_eq_getElem hl,hl]
 rw [List.getElem?_eq_none (by omega)];exact decide_eq_false (fun h=>hl h.1)
end Go.Cold
