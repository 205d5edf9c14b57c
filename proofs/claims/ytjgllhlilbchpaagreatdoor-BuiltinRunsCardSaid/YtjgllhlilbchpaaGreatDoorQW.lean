/-
  The plain side of layer 4: the ancestors of a device. No program is named here.
-/
import Derived.Test.YtjgllhlilbchpaaGreatDoorQA
import Derived.Test.YtjgllhlilbchpaaGreatDoorQD
import Derived.Maps.OwnIn
import Derived.Lib.ItoaNum
import Derived.Test.YtjgllhlilbchpaaGreatDoorQTK
import Derived.Lib.AtoiAllCases
import Derived.Lib.AppendIntMem
import Derived.Test.YtjgllhlilbchpaaGreatDoorCards
import Derived.Test.YtjgllhlilbchpaaGreatDoorTie
import Derived.ProofKit
import Derived.OpenShut
import Derived.Below
import Derived.ChangeSame
import Derived.Deep.DeepHandedRow
import Derived.Lay
import Derived.SevenTiedAt
import Derived.SliceStrings
import Derived.WideKeyArgs
import Derived.Stop.LaidErr
import Derived.ChangeSlices
set_option linter.unusedSimpArgs false
set_option linter.unusedVariables false
namespace Go.Cold
open Go Go.RowKit
theorem chain_less {L:List Dev} (h:WF L):∀ (k:Nat) (n:Int),∀ e ∈ chainL L k n,(orgF L e.idx).length≤(orgF L n).length
 | 0,_,e,he=>by simp [chainL] at he
 | k+1,n,e,he=>by
  unfold chainL at he;cases hf:findD L n with
  | none=>rw [hf] at he;simp at he
  | some d =>
   rw [hf] at he;obtain ⟨hd,hn⟩:=find_some hf;have h1:(orgF L n).length=(orgF L d.par).length+1:=by rw [← hn,own_head h hd];simp
   rcases List.mem_cons.1 he with rfl | he
   · rw [hn];exact Nat.le_refl _
   · have:=chain_less h k d.par e he;omega
theorem anc_drop {L:List Dev} (h:WF L) (n:Int):((chainO L n).filter fun d=>decide (d.idx≠n))=(chainO L n).drop 1:=by
 by_cases hn:n ∈ idxs L
 ·
  obtain ⟨d,hf⟩:=find_mem hn
  obtain ⟨hd,rfl⟩:=find_some hf;rw [chainO_cons h hd];simp only [List.filter_cons,ne_eq,not_true_eq_false,decide_false,Bool.false_eq_true,if_false,List.drop_succ_cons,List.drop_zero];refine List.filter_eq_self.2 (fun e he=>decide_eq_true (fun hh=>?_));have h1:=chain_less h _ _ e he;rw [hh,own_head h hd] at h1;simp at h1;omega
 · rw [chainO_none hn];rfl
end Go.Cold
namespace Go.Cold
open Go Go.RowKit
def unitR (v:Value):Option (DataW Unit × List MemPlace):=match v with
 | .agg a=>if a.size=0 then some (.agg [],[]) else none
 | _=>none
def SetV (P:Program) (k e:TypeId) (w:World) (b n:Nat) (s:Int→Bool):Prop :=
 ∃ D:DataW Unit,w.ownsMap P k unitR b n D∧∀ i,okI i→Maps.has D (.int .i64 i)=s i
def addS (s:Int→Bool) (i:Int):Int→Bool:=fun j=>decide (j=i) || s j
section
variable {P:Program} {k e t:TypeId} {w w':World} {b n:Nat} {s:Int→Bool}
end
end Go.Cold
namespace Go.Cold
open Go Go.RowKit
instance:RepS Int where
 rdS _ _ n cs:=cs=[.int .i64 n]∧-9223372036854775808≤n∧n≤9223372036854775807
 pos:=by show 0<1;omega
 lenS h:=by rw [h.1];rfl
 one h u hu:=by rw [h.1] at hu;simp at hu;subst hu;rfl
 mono _ _ h:=h
 rd_iff:=Iff.rfl
def hasL (l:List Int):Int→Bool:=fun n=>l.contains n
theorem addS_hasL (l:List Int) (i:Int):addS (hasL l) i=hasL (i :: l):=by
 funext n
 unfold addS hasL;rw [List.contains_cons];congr 1
theorem hasL_snoc (l:List Int) (i:Int):addS (hasL l) i=hasL (l ++ [i]):=by
 funext n
 unfold addS hasL;simp [Bool.or_comm]
end Go.Cold
namespace Go.Cold
open Go Go.RowKit
def aboveB (L:List Dev) (i j:Int):Bool:=((chainO L j).drop 1).any fun d=>decide (d.idx=i)
end Go.Cold
namespace Go.Cold
open Go Go.RowKit
def itB (k:Nat):ByteArray:=⟨(Lib.itoa (k:Int)).toArray⟩
def partS (p:ByteArray) (k:Nat):ByteArray:=(p ++ ⟨#[112]⟩) ++ itB k
def numGo (p o:ByteArray):Nat→Nat→Nat
 | 0,_=>0
 | m+1,k=>if o=partS p k then k else numGo p o m (k+1)
def numR (p o:ByteArray):Nat:=numGo p o 16 1
def partO (L:List Dev) (n:Int):Nat:=match findD L n with
 | none=>0
 | some d=>match findD L d.par with
  | none=>0
  | some p=>if d.kind=2∧p.kind=2 then numR p.orig d.orig else 0
def parO (L:List Dev) (n:Int):Int:=((findD L n).getD zeroD).par
def sisB (L:List Dev) (i j:Int):Bool:=decide (partO L i≠0) && decide (partO L j≠0) && decide (i≠j) && decide (parO L i=parO L j)
theorem sis_comm (L:List Dev) (i j:Int):sisB L i j=sisB L j i:=by
 unfold sisB;rw [Bool.eq_iff_iff];simp only [Bool.and_eq_true,decide_eq_true_eq];exact ⟨fun ⟨⟨⟨a,b⟩,c⟩,d⟩=>⟨⟨⟨b,a⟩,Ne.symm c⟩,d.symm⟩,fun ⟨⟨⟨a,b⟩,c⟩,d⟩=>⟨⟨⟨b,a⟩,Ne.symm c⟩,d.symm⟩⟩
theorem sis_self (L:List Dev) (i:Int):sisB L i i=false:=by unfold sisB;simp
def ordR (L:List Dev) (l:List Int):List Int:=idxs (L.filter fun d=>l.contains d.idx)
def okBat (L:List Dev) (dirty busy out:List Int) (n:Int):Bool :=
 !busy.contains n && ((chainO L n).drop 1).all (fun u=>!dirty.contains u.idx && !busy.contains u.idx) && busy.all (fun b=>!sisB L n b) && out.all (fun b=>!sisB L n b)
def batR (L:List Dev) (dirty busy:List Int):List Int→List Int→List Int
 | [],out=>out
 | n :: r,out=>if okBat L dirty busy out n then batR L dirty busy r (out ++ [n]) else batR L dirty busy r out
theorem ord_nodup {L:List Dev} (h:WF L) (l:List Int):(ordR L l).Nodup:=h.uniq.sublist ((List.filter_sublist (l:=L)).map _)
end Go.Cold
namespace Go.Cold
open Go Go.RowKit
theorem chain_left {A B:List Dev} (h:WF (A ++ B)):∀ (k:Nat) (n:Int),n ∈ idxs A→∀ u ∈ chainL (A ++ B) k n,u ∈ A
 | 0,n,_,u,hu=>by rw [chainL] at hu;cases hu
 | k+1,n,hn,u,hu=>by
  obtain ⟨e,he,rfl⟩:=List.mem_map.1 hn;rw [chainL,find_of h.uniq (List.mem_append_left _ he)] at hu;rcases List.mem_cons.1 hu with rfl | hu
  · exact he
  ·
   have hw:=h.left
   rcases parA_mem hw.par he with h1 | h1 | h1
   ·
    exfalso
    rw [h1] at hu;have hz:=zero_out h;cases k with
    | zero=>rw [chainL] at hu;cases hu
    | succ k=>rw [chainL,find_none.2 hz] at hu;cases hu
   · cases h1
   · exact chain_left h k e.par h1 u hu
theorem anc_left {A B:List Dev} {d:Dev} (h:WF (A ++ d :: B)):∀ u ∈ (chainO (A ++ d :: B) d.idx).drop 1,u ∈ A:=by
 intro u hu;rw [chainO_cons h (List.mem_append_right _ List.mem_cons_self)] at hu;have hu2:u ∈ chainO (A ++ d :: B) d.par:=hu;rcases (parA_append.1 h.par).2.1 with h1 | h1
 · rw [h1,chainO_none (zero_out h)] at hu2;cases hu2
 ·
  rw [List.append_nil] at h1
  exact chain_left h _ _ h1 u hu2
theorem bat_mono (L:List Dev) (dirty busy:List Int):∀ (l out:List Int),∃ more,batR L dirty busy l out=out ++ more
 | [],out=>⟨[],by rw [batR,List.append_nil]⟩
 | n :: r,out=>by
  rw [batR];split
  ·
   obtain ⟨m,hm⟩:=bat_mono L dirty busy r (out ++ [n])
   exact ⟨n :: m,by rw [hm,List.append_assoc];rfl⟩
  · exact bat_mono L dirty busy r out
theorem bat_progress {L:List Dev} (h:WF L) (dirty:List Int):(batR L dirty [] (ordR L dirty) []=[])↔ordR L dirty=[]:=by
 constructor
 ·
  intro hb
  rcases hl:ordR L dirty with _ | ⟨n,r⟩
  · rfl
  ·
   exfalso
   unfold ordR idxs at hl;rcases hf:L.filter (fun d=>dirty.contains d.idx) with _ | ⟨d,s⟩
   · rw [hf] at hl;cases hl
   ·
    rw [hf,List.map_cons] at hl
    injection hl with h1 h2
    obtain ⟨A,B,hL,hA,hd,-⟩:=List.filter_eq_cons_iff.1 hf;have hok:okBat L dirty [] [] n=true:=by
     unfold okBat;have hch:((chainO L n).drop 1).all (fun u=>!dirty.contains u.idx && !([]:List Int).contains u.idx)=true:=by
      rw [List.all_eq_true];intro u hu;rw [← h1,hL] at hu;have hua:=anc_left (by rw [← hL];exact h) u hu;have:=hA u hua;cases hq:dirty.contains u.idx with
      | true=>rw [hq] at this;exact absurd rfl this
      | false=>rfl
     rw [hch];rfl
    unfold ordR idxs at hb;rw [hf,List.map_cons,h1,batR,hok,if_pos rfl] at hb;obtain ⟨m,hm⟩:=bat_mono L dirty [] (s.map (·.idx)) ([] ++ [n]);rw [hm] at hb;cases hb
 ·
  intro hb
  rw [hb];rfl
def BatOk (L:List Dev) (dirty busy:List Int) (n:Int):Prop:=n ∉ busy∧(∀ u ∈ (chainO L n).drop 1,u.idx ∉ dirty∧u.idx ∉ busy)∧∀ b ∈ busy,sisB L n b=false
theorem okBat_iff {L:List Dev} {dirty busy out:List Int} {n:Int}:okBat L dirty busy out n=true↔BatOk L dirty busy n∧∀ b ∈ out,sisB L n b=false:=by
 unfold okBat BatOk;simp only [Bool.and_eq_true,List.all_eq_true,Bool.not_eq_true'];have hc:∀ (l:List Int) (m:Int),l.contains m=false↔m ∉ l:=fun l m=>by
  rw [← Bool.not_eq_true,List.contains_iff_mem]
 simp only [hc];exact ⟨fun ⟨⟨⟨a,b⟩,c⟩,d⟩=>⟨⟨a,b,c⟩,d⟩,fun ⟨⟨a,b,c⟩,d⟩=>⟨⟨⟨a,b⟩,c⟩,d⟩⟩
theorem bat_facts (L:List Dev) (dirty busy:List Int):∀ (l out:List Int),(∀ n ∈ out,BatOk L dirty busy n)→(out.Pairwise fun a b=>sisB L a b=false)→
  (∀ n ∈ batR L dirty busy l out,(n ∈ l∨n ∈ out)∧BatOk L dirty busy n)∧((batR L dirty busy l out).Pairwise fun a b=>sisB L a b=false)∧
  (∀ n ∈ l,BatOk L dirty busy n→(∀ b ∈ batR L dirty busy l out,b≠n→sisB L n b=false)→n ∈ batR L dirty busy l out)
 | [],out,h1,h2=>⟨fun n hn=>⟨.inr hn,h1 n hn⟩,h2,fun n hn=>by cases hn⟩
 | n :: r,out,h1,h2=>by
  rw [batR];cases hk:okBat L dirty busy out n with
  | true =>
   rw [if_pos rfl];obtain ⟨hb,hs⟩:=okBat_iff.1 hk;obtain ⟨q1,q2,q3⟩:=bat_facts L dirty busy r (out ++ [n]) (fun m hm=>by
    rcases List.mem_append.1 hm with hm | hm
    · exact h1 m hm
    · rw [List.mem_singleton.1 hm];exact hb) (List.pairwise_append.2 ⟨h2,List.pairwise_singleton _ _,fun a ha b hb2=>by rw [List.mem_singleton.1 hb2,sis_comm];exact hs a ha⟩)
   refine ⟨fun m hm=>?_,q2,fun m hm hmb hms=>?_⟩
   ·
    obtain ⟨h3,h4⟩:=q1 m hm
    refine ⟨?_,h4⟩;rcases h3 with h3 | h3
    · exact .inl (List.mem_cons_of_mem _ h3)
    ·
     rcases List.mem_append.1 h3 with h3 | h3
     · exact .inr h3
     · rw [List.mem_singleton.1 h3];exact .inl List.mem_cons_self
   ·
    rcases List.mem_cons.1 hm with rfl | hm
    ·
     obtain ⟨more,hmo⟩:=bat_mono L dirty busy r (out ++ [m])
     rw [hmo];exact List.mem_append_left _ (List.mem_append_right _ (List.mem_singleton.2 rfl))
    · exact q3 m hm hmb hms
  | false =>
   rw [if_neg (by decide)];obtain ⟨q1,q2,q3⟩:=bat_facts L dirty busy r out h1 h2;refine ⟨fun m hm=>?_,q2,fun m hm hmb hms=>?_⟩
   ·
    obtain ⟨h3,h4⟩:=q1 m hm
    exact ⟨h3.imp (List.mem_cons_of_mem _) id,h4⟩
   ·
    rcases List.mem_cons.1 hm with rfl | hm
    ·
     exfalso
     obtain ⟨more,hmo⟩:=bat_mono L dirty busy r out;have:okBat L dirty busy out m=true:=okBat_iff.2 ⟨hmb,fun b hb=>by
      by_cases he:b=m
      · subst he;exact sis_self L b
      · exact hms b (by rw [hmo];exact List.mem_append_left _ hb) he⟩
     rw [hk] at this;cases this
    · exact q3 m hm hmb hms
theorem ord_iff {L:List Dev} {l:List Int} {n:Int}:n ∈ ordR L l↔n ∈ idxs L∧n ∈ l:=by
 constructor
 ·
  intro h
  obtain ⟨d,hd,rfl⟩:=List.mem_map.1 h;obtain ⟨h1,h2⟩:=List.mem_filter.1 hd;exact ⟨mem_idxs h1,List.contains_iff_mem.1 h2⟩
 ·
  rintro ⟨h1,h2⟩
  obtain ⟨d,hd,rfl⟩:=List.mem_map.1 h1;exact mem_idxs (List.mem_filter.2 ⟨hd,List.contains_iff_mem.2 h2⟩)
def batch (L:List Dev) (dirty busy:List Int):List Int:=batR L dirty busy (ordR L dirty) []
theorem batch_iff {L:List Dev} (h:WF L) (dirty busy:List Int) {n:Int} (hn:n ∈ idxs L) :
  (n ∈ batch L dirty busy→n ∈ dirty∧BatOk L dirty busy n)∧(n ∈ dirty→BatOk L dirty busy n→(∀ b ∈ batch L dirty busy,b≠n→sisB L n b=false)→n ∈ batch L dirty busy):=by
 obtain ⟨q1,q2,q3⟩:=bat_facts L dirty busy (ordR L dirty) [] (fun _ h=>by cases h) List.Pairwise.nil;refine ⟨fun hb=>?_,fun hd hb hs=>q3 n (ord_iff.2 ⟨hn,hd⟩) hb hs⟩;obtain ⟨h1,h2⟩:=q1 n hb;rcases h1 with h1 | h1
 · exact ⟨(ord_iff.1 h1).2,h2⟩
 · cases h1
end Go.Cold
namespace Go.Cold
open Go Go.RowKit
def restB (batch dirty:List Int):List Int:=dirty.filter fun n=>!batch.contains n
structure EndAt (L:List Dev) (all taken dirty:List Int):Prop where
 tree:∀ n ∈ dirty,n ∈ idxs L
 nodup:dirty.Nodup
 apart:∀ n ∈ taken,n ∉ dirty
 tnodup:taken.Nodup
 size:taken.length+dirty.length=all.length
 later:∀ n ∈ taken,∀ m ∈ dirty,aboveB L m n=false
 order:taken.Pairwise fun a b=>aboveB L b a=false
theorem EndAt.start {L:List Dev} {all:List Int} (h1:∀ n ∈ all,n ∈ idxs L) (h2:all.Nodup):EndAt L all [] all :=
 ⟨h1,h2,fun _ h=>by (cases h),List.nodup_nil,by simp,fun _ h=>by (cases h),List.Pairwise.nil⟩
theorem bat_sub (L:List Dev) (dirty busy:List Int):∀ (l out:List Int),∃ more,batR L dirty busy l out=out ++ more∧more.Sublist l
 | [],out=>⟨[],by rw [batR,List.append_nil],List.Sublist.refl _⟩
 | n :: r,out=>by
  rw [batR];split
  ·
   obtain ⟨m,hm,hs⟩:=bat_sub L dirty busy r (out ++ [n])
   exact ⟨n :: m,by rw [hm,List.append_assoc];rfl,hs.cons_cons n⟩
  ·
   obtain ⟨m,hm,hs⟩:=bat_sub L dirty busy r out
   exact ⟨m,hm,hs.cons n⟩
theorem batch_nodup {L:List Dev} (h:WF L) (dirty busy:List Int):(batch L dirty busy).Nodup:=by
 obtain ⟨m,hm,hs⟩:=bat_sub L dirty busy (ordR L dirty) [];unfold batch;rw [hm,List.nil_append];exact (ord_nodup h dirty).sublist hs
theorem filter_size {l b:List Int} (hl:l.Nodup) (hb:b.Nodup) (hs:∀ n ∈ b,n ∈ l):b.length+(restB b l).length=l.length:=by
 have h1:(l.filter fun n=>b.contains n).length+(restB b l).length=l.length:=by
  unfold restB;have:=List.length_eq_countP_add_countP (fun n=>b.contains n) (l:=l);rw [List.countP_eq_length_filter,List.countP_eq_length_filter] at this;have e:(fun n:Int=>decide (¬ b.contains n=true))=fun n=>!b.contains n:=funext fun n=>by cases b.contains n <;> rfl
  rw [e] at this;omega
 have h2:(l.filter fun n=>b.contains n).length=b.length:=by
  have p:(l.filter fun n=>b.contains n).Perm b:=by
   refine (List.perm_ext_iff_of_nodup (hl.sublist List.filter_sublist) hb).2 fun n=>?_
   rw [List.mem_filter,List.contains_iff_mem];exact ⟨fun h=>h.2,fun h=>⟨hs n h,h⟩⟩
  exact p.length_eq
 omega
theorem EndAt.next {L:List Dev} (h:WF L) {all taken dirty:List Int} (he:EndAt L all taken dirty):EndAt L all (taken ++ batch L dirty []) (restB (batch L dirty []) dirty):=by
 have hb:∀ n ∈ batch L dirty [],n ∈ dirty∧BatOk L dirty [] n:=fun n hn=>by
  have h1:n ∈ idxs L:=by
   obtain ⟨q1,-,-⟩:=bat_facts L dirty [] (ordR L dirty) [] (fun _ h=>by cases h) List.Pairwise.nil;rcases (q1 n hn).1 with h2 | h2
   · exact (ord_iff.1 h2).1
   · cases h2
  exact (batch_iff h dirty [] h1).1 hn
 have hsub:∀ n ∈ restB (batch L dirty []) dirty,n ∈ dirty∧n ∉ batch L dirty []:=fun n hn=>by
  obtain ⟨h1,h2⟩:=List.mem_filter.1 hn;exact ⟨h1,fun h3=>by rw [List.contains_iff_mem.2 h3] at h2;cases h2⟩
 have habove:∀ n ∈ batch L dirty [],∀ m ∈ dirty,aboveB L m n=false:=fun n hn m hm=>by
  cases ha:aboveB L m n with
  | false=>rfl
  | true =>
   exfalso
   obtain ⟨e,he2,hi⟩:=List.any_eq_true.1 ha;exact ((hb n hn).2.2.1 e he2).1 ((of_decide_eq_true hi) ▸ hm)
 refine ⟨fun n hn=>he.tree n (hsub n hn).1,he.nodup.sublist List.filter_sublist,fun n hn hd=>?_,?_,?_,fun n hn m hm=>?_,?_⟩
 ·
  rcases List.mem_append.1 hn with hn | hn
  · exact he.apart n hn (hsub n hd).1
  · exact (hsub n hd).2 hn
 ·
  refine List.nodup_append.2 ⟨he.tnodup,batch_nodup h _ _,fun a ha b hb2 e=>?_⟩
  subst e;exact he.apart a ha (hb a hb2).1
 ·
  rw [List.length_append]
  have:=filter_size he.nodup (batch_nodup h dirty []) (fun n hn=>(hb n hn).1);have:=he.size;omega
 ·
  rcases List.mem_append.1 hn with hn | hn
  · exact he.later n hn m (hsub m hm).1
  · exact habove n hn m (hsub m hm).1
 ·
  refine List.pairwise_append.2 ⟨he.order,?_,fun a ha b hb2=>he.later a ha b (hb b hb2).1⟩
  exact List.Pairwise.imp_of_mem (fun {a b} ha hb2 _=>habove a ha b (hb b hb2).1) (batch_nodup h dirty [])
theorem EndAt.more {L:List Dev} (h:WF L) {all taken dirty:List Int} (he:EndAt L all taken dirty) (hd:dirty≠[]):batch L dirty []≠[]∧(restB (batch L dirty []) dirty).length<dirty.length:=by
 have h1:batch L dirty []≠[]:=fun hb=>by
  have h2:=(bat_progress h dirty).1 hb;rcases dirty with _ | ⟨n,r⟩
  · exact hd rfl
  ·
   have h3:n ∈ ordR L (n :: r):=ord_iff.2 ⟨he.tree n List.mem_cons_self,List.mem_cons_self⟩
   rw [h2] at h3;cases h3
 refine ⟨h1,?_⟩;have hb:∀ n ∈ batch L dirty [],n ∈ dirty:=fun n hn=>by
  obtain ⟨q1,-,-⟩:=bat_facts L dirty [] (ordR L dirty) [] (fun _ h=>by cases h) List.Pairwise.nil;rcases (q1 n hn).1 with h2 | h2
  · exact (ord_iff.1 h2).2
  · cases h2
 have:=filter_size he.nodup (batch_nodup h dirty []) hb;have:0<(batch L dirty []).length:=List.length_pos_iff.2 h1;omega
end Go.Cold
namespace Go.Cold
open Go Go.RowKit
end Go.Cold
namespace Go.Cold
open Go Go.RowKit
end Go.Cold
namespace Go.Cold
open Go Go.RowKit
end Go.Cold
namespace Go.Proofs.YtjgllhlilbchpaaGreatDoor
open Go.RowKit Go.Cold
end Go.Proofs.YtjgllhlilbchpaaGreatDoor
namespace Go.Cold
open Go Go.RowKit
end Go.Cold
namespace Go.Proofs.YtjgllhlilbchpaaGreatDoor
open Go.RowKit Go.Cold
def ifaceW (ev:Value):Prop:=ev=.nilIface∨∃ te pe,ev=.iface te pe
def OkA (w:World):Prop:=(∃ ev,w.cell? ⟨6,0,none⟩=some ev∧ifaceW ev)∧(∃ ev,w.cell? ⟨7,0,none⟩=some ev∧ifaceW ev)
theorem OkA.lt {w:World} (h:OkA w):6<w.heap.size∧7<w.heap.size:=by
 obtain ⟨⟨e1,h1,_⟩,⟨e2,h2,_⟩⟩:=h;exact ⟨block_lt_of_cell h1,block_lt_of_cell h2⟩
theorem OkA.next {w w':World} (h:OkA w) (hb:Below w.heap.size w w'):OkA w':=by
 obtain ⟨l1,l2⟩:=h.lt;obtain ⟨⟨e1,h1,q1⟩,⟨e2,h2,q2⟩⟩:=h;exact ⟨⟨e1,(hb.cell (p:=⟨_,0,none⟩) (by exact l1)).trans h1,q1⟩,⟨e2,(hb.cell (p:=⟨_,0,none⟩) (by exact l2)).trans h2,q2⟩⟩
end Go.Proofs.YtjgllhlilbchpaaGreatDoor
namespace Go.Cold
open Go Go.RowKit
end Go.Cold
namespace Go.Proofs.YtjgllhlilbchpaaGreatDoor
open Go.ChangeShapes Go.WideShapes Go.ChangeAt Go.RowKit

theorem own:ownKnob Tryz.prog.godebug=none:=by kernel_rfl

section
variable {H:Type} {enc:TypeId × Value→H} {P:Program}
theorem post_of_below {f:Func} {s:ChangeSpec} {apart fresh handsOn again:Bool} {W W':World} {args:Array Value} {v:Value} {ds gs:List (DataW H)} {before pa pv:List MemPlace}
  (hW:DataW.Whole enc P f.params.toList s.vars apart W args.toList ds gs before)
  (hres:∀ (b:Nat) (sp:Nat→Bool) (hd:Bool),DataW.TrodAll enc P W' b sp hd f.resultTypes.toList (v.resultList f.resultTypes.size) (s.fn H (ds ++ gs)).results [])
  (hargs:∀ sp:Nat→Bool,(∀ p ∈ before,sp p.block=true)→DataW.TrodAll enc P W' 0 sp true f.params.toList args.toList (s.fn H (ds ++ gs)).args pa)
  (hvars:∀ sp:Nat→Bool,(∀ p ∈ before,sp p.block=true)→DataW.TrodVars enc P W' sp s.vars (s.fn H (ds ++ gs)).vars pv)
  (hps:before=pa ++ pv) (hb:Below W.heap.size W W')
  (hok:∀ (j:Nat) (t:TypeId) (r:Value),f.resultTypes[j]? = some t→(v.resultList f.resultTypes.size)[j]? = some r→Value.okWide P W' .any 0 t r) :
  s.post enc P f apart fresh handsOn again W args v W':=by
 have hlt:∀ p ∈ before,p.block<W.heap.size:=fun p hp=>hW.lt p hp
 have hold:∀ p ∈ before,(fun b=>decide (b<W.heap.size)) p.block=true:=fun p hp=>by simpa using hlt p hp
 refine ⟨ds,gs,before,[],pa,pv,hW,hres _ _ _,hargs _ hold,hvars _ hold,World.keptBut_mono (fun p hp=>⟨hp,?_⟩) (hb.frame (· ∈ before)),fun _=>?_⟩
 ·
  rw [hps,List.mem_append] at hp
  exact Or.inr hp
 ·
  obtain ⟨_,_,_,_,_,hz,hn⟩:=hW
  refine ⟨hok,_,_,([] ++ pa) ++ pv,⟨[] ++ pa,pv,trodAll_append (hargs _ (fun _ _=>rfl)) (hres _ _ _),hvars _ (fun _ _=>rfl),rfl,?_,?_⟩,?_⟩
  ·
   intro b off hp
   have hin:MemPlace.cell b off ∈ before:=by rw [hps];simpa using hp
   rw [hb.frozen (hlt _ hin)];exact hz b off hin
  ·
   intro ha
   have:=hn ha;rw [hps] at this;simpa using this
  ·
   intro p hp _
   rw [hps];simpa using hp
theorem witness_row_shaped {C:Checked} {os:Os} {f:FuncId} {fn:Func} {s:OpenSpec} {conds:List PathCond} {apart:Bool} {laid:List (String × DataW Unit)} (modest:Bool) (w0:World) (args:Array Value) (hos:w0.os=os)
  (hsh:(w0.forCall (fun _ _=>0) ⟨#[],args,[]⟩).Shaped C.prog)
  (hok:Input.okWideB C.prog (w0.forCall (fun _ _=>0) ⟨#[],args,[]⟩) f ⟨#[],args,[]⟩=true)
  (hrow:s.preRow enc C.prog fn conds apart laid (w0.forCall (fun _ _=>0) ⟨#[],args,[]⟩).memory args) :
  ∃ (w:World) (tape:Tape) (i:Input),w.os=os∧(w.forCall tape i).Shaped C.prog∧i.vars=[]∧Input.okWide C.prog (w.forCall tape i) .any w.heap.size f i∧
   s.preRow enc C.prog fn conds apart laid (w.forCall tape i).memory i.args∧({ modest:=modest }:Assume).holds C.prog (lone (Frame.enter C.prog f i.args .normal) [] (w.forCall tape i)) :=
 ⟨w0,fun _ _=>0,⟨#[],args,[]⟩,hos,hsh,rfl,(Input.okWide_of_okWideB hok).2,hrow,by
  simp only [Assume.holds];exact ⟨by simp,by simp,fun _=>Modest.zero,by simp,by simp⟩⟩
end

section
variable {H:Type} {enc:TypeId × Value→H} {P:Program}
theorem trodAll_stays (hl:laidOutB P=true) {W W':World} {sp':Nat→Bool}:∀ {ts:List TypeId} {vs:List Value} {ds:List (DataW H)} {ps:List MemPlace},
  (ts.all fun t=>P.readableRec t && decide (t<P.types.size))=true→DataW.TrodAll enc P W 0 (fun _=>true) true ts vs ds ps→(∀ p ∈ ps,W.sameAt W' p)→(∀ p ∈ ps,sp' p.block=true)→DataW.TrodAll enc P W' 0 sp' true ts vs ds ps
 | [],_,_,_,_,h,_,_=>by
  obtain ⟨rfl,rfl,rfl⟩:=trodAll_nil h;exact trodAll_mk0
 | t :: ts,_,_,_,hr,h,hs,hsp=>by
  obtain ⟨v,vs,d,ds,p,q,rfl,rfl,rfl,h0,h1⟩:=trodAll_cons h;simp only [List.all_cons,Bool.and_eq_true,decide_eq_true_eq] at hr;exact trodAll_cons_mk (WideElems.Trod_stays hl hr.1.1 hr.1.2 h0 (fun x hx=>hs x (List.mem_append_left _ hx)) (fun x hx=>hsp x (List.mem_append_left _ hx)))
   (trodAll_stays hl (by simpa using hr.2) h1 (fun x hx=>hs x (List.mem_append_right _ hx)) (fun x hx=>hsp x (List.mem_append_right _ hx)))
theorem trodAll_length {W:World} {sp:Nat→Bool}:∀ {ts:List TypeId} {vs:List Value} {ds:List (DataW H)} {ps:List MemPlace},DataW.TrodAll enc P W 0 sp true ts vs ds ps→ds.length=ts.length
 | [],_,_,_,h=>by obtain ⟨_,rfl,_⟩:=trodAll_nil h;rfl
 | t :: ts,_,_,_,h=>by
  obtain ⟨v,vs,d,ds,p,q,rfl,rfl,rfl,_,h1⟩:=trodAll_cons h;have:=trodAll_length h1;simpa using this
theorem open_strs {W:World} {base:Nat} {t e:TypeId} {v:Value} {d:DataW H} {ps:List MemPlace} (ht:P.underlying t=some (.slice e)) (he:P.underlying e=some .string) (hc:P.cellsOf e=1)
  (hok:Value.okWide P W .any base t v) (h:DataW.Trod enc P W 0 (fun _=>true) true t v d ps) (hlt:∀ p ∈ ps,p.block<W.heap.size) :
  ∃ A c,∃ xs:List ByteArray,v=.slice A xs.length c∧Cold.Sl W W.heap.size A c xs:=by
 obtain ⟨a0,len,cap,rfl⟩:=okWide_slice ht hok;obtain ⟨fuel,hf⟩:=h;rcases open_strings ht he hc hf with ⟨hcs,hx⟩ | ⟨a,len',cap',ss,hcs,_,hl,hm,hlen,hx,hcell,hws⟩
 ·
  simp [Value.cells] at hcs
  obtain ⟨rfl,rfl,rfl⟩:=hcs;exact ⟨none,0,[],rfl,Cold.Sl.nil_⟩
 ·
  simp [Value.cells] at hcs
  obtain ⟨rfl,rfl,rfl⟩:=hcs;simp only [if_true] at hlen;simp only [Prod.mk.injEq] at hx;obtain ⟨_,rfl⟩:=hx;have htl:(ss.take len).length=len:=by rw [List.length_take];omega
  refine ⟨some a,cap,ss.take len,by rw [htl],⟨by rw [htl];exact hl,hm,fun h0=>?_⟩⟩;rw [htl] at h0;have hb:a.block<W.heap.size:=hlt (.cell a.block (a.off+0)) (MemPlace.mem_row.2 ⟨0,by omega,rfl⟩);have h00:=hcell 0 (by omega);have hspot:a.spot=none:=by
   have e:a.add 0=a:=by simp [Addr.add]
   rw [e] at h00;cases hs:a.spot with
   | none=>rfl
   | some z=>simp [World.cell?,hs] at h00;split at h00 <;> simp_all
  obtain ⟨b,o,sp⟩:=a;simp only at hspot hb;subst hspot;refine ⟨b,o,rfl,hb,fun i x hx=>?_⟩;rw [List.getElem?_take] at hx;split at hx
  case isFalse=>cases hx
  have hi:i<ss.length:=(List.getElem?_eq_some_iff.1 hx).1;refine ⟨[.string x],⟨rfl,hws x (List.mem_of_getElem? hx)⟩,fun j u hu=>?_⟩;have hj:j=0:=by
   rcases j with _ | j
   · rfl
   · simp at hu
  subst hj;simp at hu
  subst hu;have h1:=hcell i hi;rw [Cold.add_mk] at h1;have h2:ss.getD i ByteArray.empty=x:=by simp [List.getD,hx]
  rw [h2] at h1;simpa [Cold.Rep.size] using h1
end

theorem gES : Tryz.prog.globalNamed "strconv.ErrSyntax" = some 6 := by kernel_rfl
theorem gESType:(Tryz.prog.globals[6]?).map (·.type)=some 123:=by kernel_rfl
theorem gER : Tryz.prog.globalNamed "strconv.ErrRange" = some 7 := by kernel_rfl
theorem gERType:(Tryz.prog.globals[7]?).map (·.type)=some 123:=by kernel_rfl
theorem rowErr (u : TypeId) (h : Tryz.prog.typeName? 3 u = some "*errors.errorString") : u = 225 :=
 typeName_ptr_named (nm := "errors.errorString") (by rw [show "*" ++ "errors.errorString" = "*errors.errorString" by decide]; kernel_rfl) (by kernel_rfl) (by decide) u (by rw [show "*" ++ "errors.errorString" = "*errors.errorString" by decide]; exact h)
theorem oka_of_laid {W : World} (h : laidMetH Tryz.prog [("math/bits.deBruijn32tab", Rows.laid_math_bits_deBruijn32tab), ("math/bits.deBruijn64tab", Rows.laid_math_bits_deBruijn64tab), ("internal/strconv.uint64pow10", Rows.laid_internal_strconv_uint64pow10), ("unicode/utf8.acceptRanges", Rows.laid_unicode_utf8_acceptRanges), ("strconv.ErrRange", Rows.laid_strconv_ErrRange), ("strconv.ErrSyntax", Rows.laid_strconv_ErrSyntax), ("unicode.CaseRanges", Rows.laid_unicode_CaseRanges), ("unicode/utf8.first", Rows.laid_unicode_utf8_first)] W) : OkA W := by
 have h0 : laidMet Tryz.prog [("math/bits.deBruijn32tab", Rows.laid_math_bits_deBruijn32tab), ("math/bits.deBruijn64tab", Rows.laid_math_bits_deBruijn64tab), ("internal/strconv.uint64pow10", Rows.laid_internal_strconv_uint64pow10), ("unicode/utf8.acceptRanges", Rows.laid_unicode_utf8_acceptRanges), ("strconv.ErrRange", Rows.laid_strconv_ErrRange), ("strconv.ErrSyntax", Rows.laid_strconv_ErrSyntax), ("unicode.CaseRanges", Rows.laid_unicode_CaseRanges), ("unicode/utf8.first", Rows.laid_unicode_utf8_first)] W := h;have h2 := h0.tail.tail.tail.tail;obtain ⟨a1, s1, hv1, -, -, -⟩ := laid_sentinel h2 gER gERType Tryz.underlying123 rowErr Tryz.underlying225 Tryz.underlying227 rfl rfl Tryz.underlying9 (by kernel_rfl) (by kernel_rfl);obtain ⟨a0, s0, hv0, -, -, -⟩ := laid_sentinel h2.tail gES gESType Tryz.underlying123 rowErr Tryz.underlying225 Tryz.underlying227 rfl rfl Tryz.underlying9 (by kernel_rfl) (by kernel_rfl);exact ⟨⟨_, by have h0 := World.var?_cell gES hv0 0; simpa using h0, .inr ⟨_, _, rfl⟩⟩, ⟨_, by have h0 := World.var?_cell gER hv1 0; simpa using h0, .inr ⟨_, _, rfl⟩⟩⟩

theorem laidOut:laidOutB Tryz.prog=true:=by kernel_rfl

set_option maxRecDepth 100000 in
theorem law_lifted {f:FuncId} {fn:Func} {s:ChangeSpec} {laid:List (String × DataW Unit)} (os:Os) (started:os.Started) (H:Type) (enc:TypeId × Value→H) (F:Stop.Interp)
  (noInit:Tryz.prog.inits.idxOf? f=none) (hfn:Tryz.prog.funcs[f]? = some fn) (args0:Array Value)
  (hsh0:((World.laidAll Tryz.prog os laid).forCall (fun _ _=>0) ⟨#[],args0,[]⟩).Shaped Tryz.prog)
  (hok0:Input.okWideB Tryz.prog ((World.laidAll Tryz.prog os laid).forCall (fun _ _=>0) ⟨#[],args0,[]⟩) f ⟨#[],args0,[]⟩=true)
  (hrow0:(OpenSpec.ofChange s).preRow enc Tryz.prog fn [] false laid ((World.laidAll Tryz.prog os laid).forCall (fun _ _=>0) ⟨#[],args0,[]⟩).memory args0)
  (hvars:s.vars=[]) (hres:fn.resultTypes=#[4])
  (hs:∀ ds:List (DataW H),ds.length=fn.params.toList.length→s.fn H (ds ++ []) = { results:=[.lit (.bool true)],args:=ds })
  (hr:(fn.params.toList.all fun t=>Tryz.prog.readableRec t && decide (t<Tryz.prog.types.size))=true)
  (law:∀ (W:World) (base:Nat) (args:Array Value) (ds:List (DataW H)) (ps:List MemPlace),
   (∀ (j:Nat) t v,fn.params[j]? = some t→args[j]? = some v→Value.okWide Tryz.prog W .any base t v)→
   DataW.TrodAll enc Tryz.prog W 0 (fun _=>true) true fn.params.toList args.toList ds ps→(∀ p ∈ ps,p.block<W.heap.size)→
   (DataW.weightsEach Tryz.checked.prog (fn.params.toList ++ (OpenSpec.ofChange s).bare.plain.varTypes Tryz.checked.prog) (ds ++ [])).all (·≤reachBytes)=true→W.ShapedOpen Tryz.checked.prog→laidMetH Tryz.prog laid W→
   Calls Tryz.prog f args W fun e W'=>e=.returned (.bool true)∧Below W.heap.size W W') :
  ReturnsInHanded {} Tryz.checked os f .any ((OpenSpec.ofChange s).preRow enc Tryz.prog fn [] false laid) (((OpenSpec.ofChange s).at F).post enc Tryz.prog fn false true false false):=by
 refine returnsInHanded_of_row (C:=Tryz.checked) (s:=OpenSpec.ofChange s) own started noInit hfn
  (witness_row_shaped (enc:=enc) (C:=Tryz.checked) false (World.laidAll Tryz.prog os laid) args0 (World.laidAll_os _ _ _) hsh0 hok0 hrow0) ?_
 intro W base args ds gs before hval hW _ _ hz hlaid hsh _;have hlt:∀ p ∈ before,p.block<W.heap.size:=fun p hp=>hW.lt p hp
 have hW':=hW;obtain ⟨p,q,hA0,hV,rfl,hfz,hnd⟩:=hW;have hA:DataW.TrodAll enc Tryz.prog W 0 (fun _=>true) true fn.params.toList args.toList ds p:=hA0;have hv:(OpenSpec.ofChange s).vars=[]:=hvars;rw [hv] at hV;obtain ⟨rfl,rfl⟩:=trodVars_none hV;simp only [List.append_nil] at hW' hlt;have hlen:ds.length=fn.params.toList.length:=trodAll_length hA;refine (law W base args ds p hval hA hlt hz hsh hlaid).mono fun e W' ⟨he,hb⟩=>?_
 subst he;have e1:=hs ds hlen;have hrt:fn.resultTypes.toList=[4]:=by rw [hres]
 have hrl:(Value.bool true).resultList fn.resultTypes.size=[.bool true]:=by rw [hres];rfl
 refine ⟨_,rfl,post_of_below (s:=s) (pa:=p) (pv:=[]) hW' (fun _ _ _=>?_) (fun sp hsp=>?_) (fun _ _=>?_) (by simp) hb ?_⟩
 · rw [hrt,hrl,e1];exact trodAll_mk1 (shut_bool Tryz.underlying4 _)
 · rw [e1];exact trodAll_stays laidOut hr hA (fun x hx=>hb.same (hlt x hx)) (fun x hx=>hsp x hx)
 · rw [e1,hvars];rfl
 ·
  intro j t r hj hr'
  rw [hres] at hj;rw [hrl] at hr';rcases j with _ | j
  ·
   simp at hj hr'
   subst hj;subst hr';exact okWide_bool_mk Tryz.underlying4 _
  · simp at hr'

end Go.Proofs.YtjgllhlilbchpaaGreatDoor
namespace Go.Proofs.YtjgllhlilbchpaaGreatDoor
open Go.ChangeShapes Go.WideShapes Go.ChangeAt Go.RowKit
section
variable {H:Type} {enc:TypeId × Value→H} {P:Program}
theorem open_nums {W:World} {base:Nat} {t e:TypeId} {v:Value} {d:DataW H} {ps:List MemPlace} (ht:P.underlying t=some (.slice e)) (he:P.underlying e=some (.int .i64)) (hc:P.cellsOf e=1)
  (hok:Value.okWide P W .any base t v) (h:DataW.Trod enc P W 0 (fun _=>true) true t v d ps) (hlt:∀ p ∈ ps,p.block<W.heap.size) :
  ∃ A c,∃ xs:List Int,v=.slice A xs.length c∧Cold.Sl W W.heap.size A c xs:=by
 obtain ⟨a0,len,cap,rfl⟩:=okWide_slice ht hok;obtain ⟨fuel,hf⟩:=h;rcases open_ints ht he hc hf with ⟨hcs,hx⟩ | ⟨a,len',cap',ss,hcs,_,hl,hm,hlen,hx,hcell,hws⟩
 ·
  simp [Value.cells] at hcs
  obtain ⟨rfl,rfl,rfl⟩:=hcs;exact ⟨none,0,[],rfl,Cold.Sl.nil_⟩
 ·
  simp [Value.cells] at hcs
  obtain ⟨rfl,rfl,rfl⟩:=hcs;simp only [if_true] at hlen;simp only [Prod.mk.injEq] at hx;obtain ⟨_,rfl⟩:=hx;have htl:(ss.take len).length=len:=by rw [List.length_take];omega
  refine ⟨some a,cap,ss.take len,by rw [htl],⟨by rw [htl];exact hl,hm,fun h0=>?_⟩⟩;rw [htl] at h0;have hb:a.block<W.heap.size:=hlt (.cell a.block (a.off+0)) (MemPlace.mem_row.2 ⟨0,by omega,rfl⟩);have h00:=hcell 0 (by omega);have hspot:a.spot=none:=by
   have e:a.add 0=a:=by simp [Addr.add]
   rw [e] at h00;cases hs:a.spot with
   | none=>rfl
   | some z=>simp [World.cell?,hs] at h00;split at h00 <;> simp_all
  obtain ⟨b,o,sp⟩:=a;simp only at hspot hb;subst hspot;refine ⟨b,o,rfl,hb,fun i x hx=>?_⟩;rw [List.getElem?_take] at hx;split at hx
  case isFalse=>cases hx
  have hi:i<ss.length:=(List.getElem?_eq_some_iff.1 hx).1;have hwf:=hws x (List.mem_of_getElem? hx);simp only [Lit.wf,Bool.and_eq_true,decide_eq_true_eq] at hwf;refine ⟨[.int .i64 x],⟨rfl,hwf.1,hwf.2⟩,fun j u hu=>?_⟩;have hj:j=0:=by
   rcases j with _ | j
   · rfl
   · simp at hu
  subst hj;simp at hu
  subst hu;have h1:=hcell i hi;rw [Cold.add_mk] at h1;have h2:ss.getD i 0=x:=by simp [List.getD,hx]
  rw [h2] at h1;simpa [Cold.Rep.size] using h1
end
end Go.Proofs.YtjgllhlilbchpaaGreatDoor
