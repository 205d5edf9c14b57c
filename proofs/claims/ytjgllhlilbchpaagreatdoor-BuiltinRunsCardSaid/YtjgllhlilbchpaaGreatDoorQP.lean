/-
  Regions that draw their order,in a fenced walk (of a function or of a round),with one condition on the world that is kept: the operations that yield the same in every such world are taken first. No program is named here.
-/
import Derived.OrdersIn
import Derived.OwnWalkIn
import Derived.OrdersHeld
import Derived.Deep.RegionHeld
import Derived.Test.YtjgllhlilbchpaaGreatDoorQL
import Derived.Maps.OwnIn
import Derived.Test.YtjgllhlilbchpaaGreatDoorQTK
import Derived.Test.YtjgllhlilbchpaaGreatDoorQW
set_option linter.unusedSimpArgs false
set_option linter.unusedVariables false
namespace Go
section
variable {F:Fence} {n:Nat} {P:Program} {ops:Array Oper} {Q:Exit→Act→World→Prop} {md:Region.Mode} {S:World→Prop} {late:Nat→Bool}
def noDefer (ops:Array Oper):Bool:=ops.all fun o=>match o.op with | .defer _=>false | _=>true
theorem noDefer_spec (h:noDefer ops=true):∀ (j:Nat) (o:Oper),ops[j]? = some o→∀ c,o.op≠.defer c:=fun j o ho c hc=>by
 have h1:=(Array.all_eq_true_iff_forall_mem.1 h) o (Array.mem_of_getElem? ho);rw [hc] at h1;cases h1
def YieldsHF (P:Program) (ops:Array Oper) (S:World→Prop) (o:Oper) (v:Value) (a:Act):Prop:=YieldsIf P ops S o v a∧∀ w,o.about P w a.eval=none
theorem YieldsHF.of_same {o:Oper} {v:Value} {a a':Act} (hy:YieldsHF P ops S o v a) (he:execOp a'.eval o=execOp a.eval o)
  (hw:Region.wanted o (yielded ops a'.tmps)=Region.wanted o (yielded ops a.tmps)) (hb:∀ w,o.about P w a'.eval=o.about P w a.eval):YieldsHF P ops S o v a' :=
 ⟨hy.1.of_same he hw,fun w=>by rw [hb w];exact hy.2 w⟩
theorem YieldsHF.wpOpIn {i:Nat} {o:Oper} {v:Value} {a:Act} (hnd:noDefer ops=true) (hi:ops[i]? = some o) (hy:YieldsHF P ops S o v a)
  {K:Act→World→Prop} {w:World} (hS:S w) (h:K (a.put o.dst v) w):wpOpIn F n P ops Q i K a w:=by
 unfold Go.wpOpIn;simp only [hi];have hab:∀ f,o.about P w a.eval=some f→F.fn f:=fun f hf=>by rw [hy.2 w] at hf;cases hf
 rcases hy.1 with ⟨hw,hv⟩ | ⟨hw,rfl⟩
 ·
  simp only [hw,if_true,Oper.wpIn]
  rw [Oper.semAt_eq _ _ _ (noDefer_spec hnd _ _ hi),hv w hS];exact ⟨hab,h⟩
 · simp only [hw,Bool.false_eq_true,if_false];exact ⟨hab,h⟩
theorem wpOpIn_putIf {j:Nat} {oi oj:Oper} {v:Value} (hnd:noDefer ops=true) (hj:ops[j]? = some oj) (hap:oi.apart ops oj=true)
  (hsi:∀ cs b,oi.op≠.select cs b) (hsj:∀ cs b,oj.op≠.select cs b)
  (hQ:∀ c a w,Q (.panic c) (a.put oi.dst v) w→Q (.panic c) a w) {K:Act→World→Prop} {a:Act} {w:World}
  (hy:YieldsHF P ops S oi v a) (h:wpOpIn F n P ops Q j K (a.put oi.dst v) w) :
  wpOpIn F n P ops Q j (fun a' w'=>YieldsHF P ops S oi v a'∧K (a'.put oi.dst v) w') a w:=by
 obtain ⟨h1,h2,h3⟩:=Oper.apart_spec hap;have keep:∀ (a:Act),YieldsHF P ops S oi v a→∀ u,YieldsHF P ops S oi v (a.put oj.dst u):=fun a hy u =>
  hy.of_same (execOp_put oi hsi a oj.dst u h3) (wanted_put oi a oj.dst u h3) (fun w=>about_put oi w a oj.dst u h3)
 have hno:=noDefer_spec hnd _ _ hj;have keepD:∀ d,YieldsHF P ops S oi v { a with defers:=d :: a.defers }:=fun d=>hy.of_same rfl rfl (fun _=>rfl)
 unfold wpOpIn at *;simp only [hj] at *;rw [wanted_put oj a oi.dst v h1,about_put oj w a oi.dst v h1] at h;split
 ·
  rename_i hw
  simp only [hw,if_true] at h;unfold Oper.wpIn at *;rw [about_put oj w a oi.dst v h1] at h;refine ⟨h.1,?_⟩;have h:=h.2;rw [Oper.semAt_eq _ _ _ hno,execOp_put oj hsj a oi.dst v h1] at h;rw [Oper.semAt_eq _ _ _ hno];generalize (execOp a.eval oj).run P w=r at *;cases r with
  | ok x w' =>
   cases x <;> simp only [Oper.uponIn] at h ⊢
   case value u=>exact ⟨keep a hy u,by rw [← Act.put_comm a v u h2];exact h⟩
   case skip=>exact ⟨keep a hy _,by rw [← Act.put_comm a v undef h2];exact h⟩
   case defer d =>
    refine ⟨keep _ (keepD d) _,?_⟩;rw [← Act.put_comm _ v undef h2,← Act.put_defers];exact h
   case enter f args =>
    refine ⟨h.1,CallsIn.mono h.2 fun e w'' he=>?_⟩;cases e with
    | returned u=>exact ⟨keep a hy u,by rw [← Act.put_comm a v u h2];exact he⟩
    | panicked c=>exact hQ _ _ _ he
    | outgrown=>exact he
   case row row args=>exact ⟨h.1,RowsIn.mono h.2 fun u w'' he=>⟨keep a hy u,by rw [← Act.put_comm a v u h2];exact he⟩⟩
   case round l f tmps assign body =>
    refine ⟨h.1,RoundIn.mono h.2 fun e w'' he=>?_⟩;cases e with
    | returned u=>exact ⟨keep a hy u,by rw [← Act.put_comm a v u h2];exact he⟩
    | panicked c=>exact hQ _ _ _ he
    | outgrown=>exact he
  | halt x w' =>
   cases x <;> simp only [Oper.uponIn] at h ⊢
   case panic u=>exact hQ _ _ _ h
 ·
  rename_i hw
  simp only [hw] at h;exact ⟨h.1,keep a hy _,by rw [← Act.put_comm a v undef h2];exact h.2⟩
def wpAnyHI (F:Fence) (n:Nat) (P:Program) (md:Region.Mode) (ops:Array Oper) (Q:Exit→Act→World→Prop) (S:World→Prop) (late:Nat→Bool):Nat→Array Bool→Act→World→Prop
 | 0,listed,a,w=>Region.ready md ops listed=[]∧Q .normal a w
 | fuel+1,listed,a,w =>
  (Region.ready md ops listed=[]→Q .normal a w)∧
  ∀ i ∈ Region.ready md ops listed,wpOpIn F n P ops Q i (fun a' w'=>(late i=false→S w')∧wpAnyHI F n P md ops Q S late fuel (listed.setIfInBounds i true) a' w') a w
theorem wpAnyIn_of_held:∀ (fuel:Nat) (listed:Array Bool) (a:Act) (w:World),wpAnyHI F n P md ops Q S late fuel listed a w→wpAnyIn F n P md ops Q fuel listed a w
 | 0,_,_,_,h=>h
 | fuel+1,_,_,_,h=>⟨h.1,fun i hi=>wpOpIn_mono (fun a' w' h'=>wpAnyIn_of_held fuel _ a' w' h'.2) (h.2 i hi)⟩
def lateOk (md:Region.Mode) (ops:Array Oper) (late:Nat→Bool) (i:Nat):Bool:=(List.range ops.size).all fun j=>!late j || (match ops[j]? with | some o=>o.after.any (fun e=>Region.binds md e && e.on == i) | none=>true)
theorem lateOk_spec {i j:Nat} {o:Oper} (h:lateOk md ops late i=true) (ho:ops[j]? = some o) (hl:late j=true):∃ e ∈ o.after,Region.binds md e=true∧e.on=i:=by
 have hj:j<ops.size:=(Array.getElem?_eq_some_iff.1 ho).1;have h1:=List.all_eq_true.1 h j (List.mem_range.2 hj);rw [hl,ho] at h1;simp only [Bool.not_true,Bool.false_or,Array.any_eq_true'] at h1;obtain ⟨e,he,h2⟩:=h1;rw [Bool.and_eq_true] at h2;exact ⟨e,he,h2.1,by simpa using h2.2⟩
theorem wpAnyHI_first {i:Nat} {oi:Oper} {v:Value} (hlate:lateOk md ops late i=true) (hnd:noDefer ops=true) (hi:ops[i]? = some oi) (hsel:∀ (j:Nat) (o:Oper) cs b,ops[j]? = some o→o.op≠.select cs b)
  (hQ:∀ c a w,Q (.panic c) (a.put oi.dst v) w→Q (.panic c) a w) :
  ∀ (fuel:Nat) (listed:Array Bool) (a:Act) (w:World),
   (∀ j oj,ops[j]? = some oj→j≠i→listed.getD j true=false→(∀ e ∈ oj.after,Region.binds md e=true→e.on≠i)→oi.apart ops oj=true)→
   i ∈ Region.ready md ops listed→YieldsHF P ops S oi v a→S w→
   wpAnyHI F n P md ops Q S late fuel (listed.setIfInBounds i true) (a.put oi.dst v) w→wpAnyHI F n P md ops Q S late (fuel+1) listed a w:=by
 intro fuel;induction fuel with
 | zero =>
  intro listed a w _ hr hy hS H;refine ⟨fun h=>(by rw [h] at hr;cases hr),fun j hj=>?_⟩;by_cases hji:j=i
  · subst hji;exact hy.wpOpIn hnd hi hS ⟨fun _=>hS,H⟩
  ·
   have:=ready_mono hj hji
   rw [H.1] at this;cases this
 | succ fuel ih =>
  intro listed a w hfree hr hy hS H;refine ⟨fun h=>(by rw [h] at hr;cases hr),fun j hj=>?_⟩;by_cases hji:j=i
  · subst hji;exact hy.wpOpIn hnd hi hS ⟨fun _=>hS,H⟩
  ·
   have h1:=H.2 j (ready_mono hj hji)
   obtain ⟨hjun,oj,hoj,hall⟩:=mem_ready.1 hj;have hnot:∀ e ∈ oj.after,Region.binds md e=true→e.on≠i:=fun e he hb heq=>by
    have h1:=hall e he hb;have h0:=(mem_ready.1 hr).1;rw [heq] at h1;rcases Nat.lt_or_ge i listed.size with h' | h'
    · simp [h'] at h0 h1;rw [h0] at h1;cases h1
    · simp [Array.getElem?_eq_none h'] at h1
   have hnl:late j=false:=by
    cases hl:late j with
    | false=>rfl
    | true=>obtain ⟨e,he,hb,hon⟩:=lateOk_spec hlate hoj hl;exact absurd hon (hnot e he hb)
   have h2:=wpOpIn_putIf hnd hoj (hfree j oj hoj hji hjun hnot) (fun cs b=>hsel i oi cs b hi) (fun cs b=>hsel j oj cs b hoj) hQ hy h1;have hfree':∀ k ok,ops[k]? = some ok→k≠i→(listed.setIfInBounds j true).getD k true=false→
     (∀ e ∈ ok.after,Region.binds md e=true→e.on≠i)→oi.apart ops ok=true:=fun k ok hk hki hun hno=>by
    refine hfree k ok hk hki ?_ hno;by_cases hjk:j=k
    · subst hjk;exact hjun
    · rw [getD_set_ne true hjk] at hun;exact hun
   refine wpOpIn_mono (fun a' w' h3=>⟨h3.2.1,ih (listed.setIfInBounds j true) a' w' hfree' (ready_mono hr (Ne.symm hji)) h3.1 (h3.2.1 hnl) ?_⟩) h2;rw [Array.setIfInBounds_comm _ _ hji];exact h3.2.2
theorem wpAnyHI_take {i:Nat} {oi:Oper} {v:Value} {fuel:Nat} {listed:Array Bool} {a:Act} {w:World} (hlate:lateOk md ops late i=true) (hnd:noDefer ops=true) (hi:ops[i]? = some oi)
  (hs:Region.noSelect ops=true) (hf:Region.free md ops listed i=true) (hr:(Region.ready md ops listed).contains i=true)
  (hQ:∀ c a w,Q (.panic c) (a.put oi.dst v) w→Q (.panic c) a w) (hab:∀ w,oi.about P w a.eval=none) (hy:YieldsIf P ops S oi v a) (hS:S w)
  (h:wpAnyHI F n P md ops Q S late fuel (listed.setIfInBounds i true) (a.put oi.dst v) w):wpAnyHI F n P md ops Q S late (fuel+1) listed a w :=
 wpAnyHI_first hlate hnd hi (Region.noSelect_spec hs) hQ fuel listed a w (Region.free_spec hi hf) (by simpa using hr) ⟨hy,hab⟩ hS h
theorem wpAnyHI_done {listed:Array Bool} {a:Act} {w:World} (hr:Region.ready md ops listed=[]) (h:Q .normal a w) :
  ∀ fuel,wpAnyHI F n P md ops Q S late fuel listed a w
 | 0=>⟨hr,h⟩
 | _+1=>⟨fun _=>h,by rw [hr];simp⟩
def AllReadyHI (F:Fence) (n:Nat) (P:Program) (md:Region.Mode) (ops:Array Oper) (Q:Exit→Act→World→Prop) (S:World→Prop) (late:Nat→Bool) (fuel:Nat) (listed:Array Bool) (a:Act) (w:World) (rs:List Nat):Prop :=
 ∀ i ∈ rs,wpOpIn F n P ops Q i (fun a' w'=>(late i=false→S w')∧wpAnyHI F n P md ops Q S late fuel (listed.setIfInBounds i true) a' w') a w
theorem AllReadyHI.nil {fuel:Nat} {listed:Array Bool} {a:Act} {w:World}:AllReadyHI F n P md ops Q S late fuel listed a w []:=fun _ h=>by cases h
theorem AllReadyHI.cons {fuel:Nat} {listed:Array Bool} {a:Act} {w:World} {i:Nat} {o:Oper} {rs:List Nat} (ho:ops[i]? = some o)
  (h:∀ K':Act→World→Prop,Shut (∀ a w,(late i=false→S w)→((late i=false→S w)→wpAnyHI F n P md ops Q S late fuel (listed.setIfInBounds i true) a w)→K' a w)→if Region.wanted o (yielded ops a.tmps)=true then Oper.wpIn F n P o a w K' Q else (∀ f,o.about P w a.eval=some f→F.fn f)∧K' (a.put o.dst undef) w)
  (hs:AllReadyHI F n P md ops Q S late fuel listed a w rs):AllReadyHI F n P md ops Q S late fuel listed a w (i :: rs):=fun j hj=>by
 rcases List.mem_cons.1 hj with rfl | hj
 · exact wpOpIn_step ho (fun K' hK=>h K' (fun a w hS hW=>hK a w ⟨hS,hW hS⟩))
 · exact hs j hj
theorem wpAnyHI_ready {rs:List Nat} {fuel:Nat} {listed:Array Bool} {a:Act} {w:World} (hr:Region.ready md ops listed=rs) (hne:rs≠[])
  (h:AllReadyHI F n P md ops Q S late fuel listed a w rs):wpAnyHI F n P md ops Q S late (fuel+1) listed a w:=⟨fun h0=>absurd (hr ▸ h0) hne,hr ▸ h⟩
theorem wpIn_region_held_drew {id:Nat} {a:Act} {w:World} (hm:P.follows .mixedOrders=true) (hS:S w.drew)
  (h:S w.drew→wpAnyHI F n P .any ops Q S late ops.size (Array.replicate ops.size false) a w.drew):(Code.region id ops true).wpIn F n P Q a w :=
 wpIn_region_any hm (wpAnyIn_of_held _ _ _ _ (h hS))
end
end Go
namespace Go.Cold
open Go Go.RowKit
section
variable {α:Type} [El α] {P:Program} {k e:TypeId} {w:World} {b n:Nat} {f:Int→Option α} {F:Fence} {nF:Nat}
end
def insF (ins:List Int) (n:Int):Option Bool:=if n ∈ ins then some true else none
def SuSt (P:Program) (tI tB:TypeId) (gt gi bm:Nat) (A:Option Addr) (c N B:Nat) (L:List Dev) (idx:Int) (ins:List Int) (W:World):Prop :=
 BoxL W gt [.slice A L.length c]∧BoxL W gi [.int .i64 idx]∧MapV P tI tB W bm N (insF ins)∧Sl W B A c L∧B≤W.heap.size
def suZ (gt gi bm B:Nat) (k:Nat):Prop:=k<B∨k=gt∨k=gi∨k=bm
section
variable {P:Program} {tI tB:TypeId} {gt gi bm c N B:Nat} {A:Option Addr} {L:List Dev} {idx:Int} {ins:List Int} {W W':World}
theorem SuSt.below (h:SuSt P tI tB gt gi bm A c N B L idx ins W) (hb:Below W.heap.size W W'):SuSt P tI tB gt gi bm A c N B L idx ins W':=by
 obtain ⟨h1,h2,h3,h4,h5⟩:=h;exact ⟨h1.kept (grown_none hb) (fun e=>by cases e),h2.kept (grown_none hb) (fun e=>by cases e),h3.next hb,h4.keep (hb.mono h5),Nat.le_trans h5 hb.size⟩
theorem SuSt.kpz {Z:Nat→Prop} (h:SuSt P tI tB gt gi bm A c N B L idx ins W) (hk:KpZ Z W W') (hz:∀ k,suZ gt gi bm B k→Z k):SuSt P tI tB gt gi bm A c N B L idx ins W':=by
 obtain ⟨h1,h2,h3,h4,h5⟩:=h;exact ⟨h1.kpz hk (hz _ (.inr (.inl rfl))),h2.kpz hk (hz _ (.inr (.inr (.inl rfl)))),h3.kpz hk (hz _ (.inr (.inr (.inr rfl)))),h4.kpz hk h5 (fun k hkb=>hz _ (.inl hkb)),Nat.le_trans h5 hk.1⟩
end
end Go.Cold
namespace Go.Proofs.YtjgllhlilbchpaaGreatDoor
open Go.RowKit Go.Cold Go.Shelf
attribute [local go_sem] Oper.semAt_some
end Go.Proofs.YtjgllhlilbchpaaGreatDoor
namespace Go.Cold
open Go Go.RowKit
def SubJ (T:TypeId) (w:World) (g5 bs:Nat) (p:Dev→Bool) (pre:List DevX) (N:Nat) (W:World):Prop :=
 Below w.heap.size w W∧g5<N∧∃ v,BoxL W g5 [v]∧(∀ k,v.ownBlock=some k→bs≤k∧k<N)∧OwnsS (fun b=>bs≤b) W bs T v ((pre.map (·.1)).filter p)
theorem SubJ.grown {T:TypeId} {w:World} {g5 bs k N:Nat} {p:Dev→Bool} {pre:List DevX} {X Y:World} (h:SubJ T w g5 bs p pre N X) (hg:X.grownBy Y (some k)) (h1:w.heap.size≤k) (h2:g5≠k) (h3:k<bs):SubJ T w g5 bs p pre N Y:=by
 obtain ⟨a1,a2,v,a3,a5,a4⟩:=h;exact ⟨a1.grown hg a1.size (fun q hq=>by have:=Option.some.inj hq;omega),a2,v,a3.kept hg (fun e=>h2 (Option.some.inj e)),a5,a4.grownb hg (fun x (hx:bs≤x)=>by omega) h3⟩
theorem SubJ.below {T:TypeId} {w:World} {g5 bs N:Nat} {p:Dev→Bool} {pre:List DevX} {X Y:World} (h:SubJ T w g5 bs p pre N X) (hb:Below X.heap.size X Y):SubJ T w g5 bs p pre N Y:=by
 obtain ⟨a1,a2,v,a3,a5,a4⟩:=h;exact ⟨a1.trans (hb.mono a1.size),a2,v,a3.kept (grown_none hb) (fun e=>by cases e),a5,a4.below hb⟩
theorem SubJ.abid {T:TypeId} {w:World} {g5 bs k0:Nat} {p:Dev→Bool} (h1:w.heap.size≤k0) (h2:g5≠k0) (h3:k0<bs):Abid (fun k=>k=k0) (SubJ T w g5 bs p):=fun pre N X Y h hst=>by
 rcases hst with hb | ⟨k,rfl,hg⟩
 · exact h.below hb
 · exact h.grown hg h1 h2 h3
theorem SubJ.putl {T:TypeId} {w:World} {g5 bs l:Nat} {p:Dev→Bool} (h1:w.heap.size≤l) (h2:g5≠l) (h3:l<bs):∀ pre N X o,SubJ T w g5 bs p pre N X→SubJ T w g5 bs p pre N (X.putObj l o):=fun pre N X o h=>h.grown (grownBy_putObj' X l o) h1 h2 h3
theorem sub_round {T:TypeId} {w:World} {g5 bs N l D:Nat} {p:Dev→Bool} {Z:Nat→Prop} {pre:List DevX} {x:DevX} {W q2 q3:World} {v v':Value} {a:Act}
  (hJ:Below w.heap.size w W) (hN:g5<N) (hbox:BoxL W g5 [v]) (hv:∀ k,v.ownBlock=some k→bs≤k∧k<N) (h2:Below W.heap.size W q2) (h3:q2.grownBy q3 v.ownBlock)
  (hown:OwnsS (fun b=>bs≤b) q3 bs T v' (((pre ++ [x]).map (·.1)).filter p)) (hg5:w.heap.size≤g5∧g5<bs∧w.heap.size≤bs) (hZ:¬ Z g5) (hZv:∀ k,bs≤k→¬ Z k) (hl:l<bs∧D<bs∧l≠g5∧D≠g5) (hlt:l<W.heap.size∧D<W.heap.size) :
  roundP (SubJ T w g5 bs p) Z l D (pre ++ [x]) N W .normal a (q3.setCell ⟨g5,0,none⟩ v'):=by
 have hg4:=grown_one q3 g5 0 v';have hne:some g5≠v.ownBlock:=fun e=>by have:=(hv g5 e.symm).1;omega
 have b2:BoxL q3 g5 [v]:=(hbox.kept (grown_none h2) (fun e=>by cases e)).kept h3 hne;have hs2:=h2.size;have hs3:=h3.size;have hs4:=hg4.size;have hw2:Below w.heap.size w q2:=hJ.trans (h2.mono hJ.size);have hw3:Below w.heap.size w q3:=hw2.grown h3 hw2.size (fun k hk=>by have:=(hv k hk).1;omega);have blk:∀ k,k<W.heap.size→k≠g5→v.ownBlock≠some k→(q3.setCell ⟨g5,0,none⟩ v').heap[k]? = W.heap[k]?:=fun k hk h5 hvk =>
  ((hg4.block k (by omega) (fun e=>h5 (Option.some.inj e))).trans (h3.block k (by omega) (fun e=>hvk e.symm))).trans (h2.block k hk)
 refine ⟨⟨hw3.grown hg4 hw3.size (fun q hq=>by have:=Option.some.inj hq;omega),?_,v',b2.set_ (j:=0) (by simp) v',fun k hk=>?_,hown.grownb hg4 (fun x (hx:bs≤x)=>by omega) hg5.2.1⟩,⟨by omega,fun k hk hz=>blk k hk (fun e=>?_) (fun e=>?_)⟩,blk l hlt.1 hl.2.2.1 (fun e=>by have:=(hv l e).1;omega),blk D hlt.2 hl.2.2.2 (fun e=>by have:=(hv D e).1;omega)⟩
 · have:=b2.2.2;omega
 · have:=hown.lt k hk;omega
 ·
  rcases hz with hz | hz
  · exact hZ (e ▸ hz)
  · omega
 ·
  have:=hv k e
  rcases hz with hz | hz
  · exact hZv k this.1 hz
  · omega
theorem sub_skip {T:TypeId} {w:World} {g5 bs N l D:Nat} {p:Dev→Bool} {Z:Nat→Prop} {pre:List DevX} {x:DevX} {W:World} {a:Act} (h:SubJ T w g5 bs p pre N W) (hp:p x.1=false) (hNW:N≤W.heap.size) :
  roundP (SubJ T w g5 bs p) Z l D (pre ++ [x]) N W .normal a W:=by
 obtain ⟨a1,a2,v,a3,a5,a4⟩:=h;refine ⟨⟨a1,by omega,v,a3,fun k hk=>⟨(a5 k hk).1,by have:=(a5 k hk).2;omega⟩,?_⟩,KpZ.refl _ _,rfl,rfl⟩;rw [List.map_append,List.filter_append];simpa [hp] using a4
section
variable {P:Program} {F:Fence} {n:Nat} {bytes:Nat} {TS:TypeId} {ops:Array Oper} {o:Oper} {a:Act} {Q:Exit→Act→World→Prop} {w:World}
theorem step_appIn {K:Act→World→Prop} {Z:Prop} (hgd:o.guard=none) (s x:Operand) (ho:o.op=.call { callee:=.builtin .append,args:=#[s,x],argTypes:=#[TS,TS] }) (v u:Value) (hs:a.eval s=v) (hx:a.eval x=u)
  {R:Value→World→Prop} (hrun:∃ v' w',(Builtin.append_ #[TS,TS] o.type #[v,u]).run P w=.ok v' w'∧R v' w') (hK:∀ v' w',R v' w'→K (a.put o.dst v') w') :
  if Region.wanted o (yielded ops a.tmps)=true then Oper.wpIn F n P o a w K Q else Z:=by
 have hw:Region.wanted o (yielded ops a.tmps)=true:=by simp [Region.wanted,hgd]
 rw [if_pos hw];obtain ⟨v',w',hr,hR⟩:=hrun;unfold Oper.wpIn;refine ⟨?_,?_⟩
 · simp [Oper.about,ho,resolve,Target.leads,Sem.run_pure]
 ·
  rw [Oper.semAt_plain F _ _ (by rw [ho];intro c hc';cases hc')]
  simp [execOp,ho,resolve,invoke,builtin,hs,hx,hr,Result.andThen]
  exact hK _ _ hR
end
theorem filt_app {p:Dev→Bool} {pre:List DevX} {x:DevX} (h:p x.1=true):((pre ++ [x]).map (·.1)).filter p=(pre.map (·.1)).filter p ++ [x.1]:=by simp [h]
theorem SubJ.done {T:TypeId} {w:World} {g5 bs N:Nat} {p:Dev→Bool} {pre:List DevX} {X:World} (h:SubJ T w g5 bs p pre N X) {l:List Dev} (hl:pre.map (·.1)=l) (hbs:w.heap.size≤bs) :
  ∃ v A c,v=.slice A (l.filter p).length c∧BoxL X g5 [v]∧∀ D o,w.heap.size≤D→D<bs→Below w.heap.size w (X.putObj D o)∧OwnsS (fun _=>True) (X.putObj D o) w.heap.size T v (l.filter p):=by
 subst hl;obtain ⟨a1,a2,v,a3,a5,a4⟩:=h;obtain ⟨A,c,rfl,-⟩:=a4.cs;refine ⟨_,A,c,rfl,a3,fun D o hD hb=>?_⟩;have hg:=grownBy_putObj' X D o;exact ⟨a1.grown hg a1.size (fun q hq=>by have:=Option.some.inj hq;omega),((a4.grownb hg (fun x (hx:bs≤x)=>by omega) hb).wide (fun _ _=>trivial)).low hbs⟩
def nOnly (K:Act→World→Prop):Exit→Act→World→Prop
 | .normal,a,w=>K a w
 | _,_,_=>False
theorem wp_nopanic {P:Program} {c:Code} {Q:Exit→Act→World→Prop} {a:Act} {w:World} (h:c.wp P (nOnly (Q .normal)) a w):c.wp P Q a w :=
 wp_mono h (fun e a w hq=>by cases e <;> first | exact hq | exact hq.elim)
def notIdx (n:Int) (d:Dev):Bool:=decide (d.idx≠n)
theorem attrs_le {d:Dev} (h:checkD d=0):d.attrs.length≤1000000:=by
 rw [checkD_eq] at h;by_cases h1:rangeB d <;> by_cases h2:namedB d <;> by_cases h3:kindB d <;> by_cases h4:numberB d <;> by_cases h5:d.attrs.length≤24 <;> simp_all
 all_goals omega
theorem rd_copied {w:World} {y:Dev} {A4:Option Addr} {c4 bs b0:Nat} {v:Value} (hok:devOk y) (h:SlS w (fun b=>b0≤b∧b<w.heap.size) A4 c4 y.attrs) (hbs:bs≤b0) (hv:∀ k,v.ownBlock=some k→k<b0) :
  RepS.rdS w (fun b=>bs≤b∧b<w.heap.size∧v.ownBlock≠some b) y (devCells y A4 c4) :=
 ⟨A4,c4,rfl,hok,h.mono (fun b hb=>⟨by omega,hb.2,fun e=>by have:=hv b e;omega⟩) (fun _ _ _ _ hu=>hu)⟩
end Go.Cold
namespace Go.Proofs.YtjgllhlilbchpaaGreatDoor
open Go.RowKit Go.Cold Go.Shelf
attribute [local go_sem] Oper.semAt_some
set_option maxRecDepth 100000 in
set_option maxHeartbeats 4000000 in
theorem Ancestors_any (A:Option Addr) (c:Nat) (L:List Dev) (n:Int) (w:World) (B:Nat) (hB:B≤w.heap.size) (hx:Sl w B A c L) (hv:VT L) (hn:okI n):Calls Tryz.prog 41 #[.agg #[.slice A L.length c],.int .i64 n] w (GotP (fun _=>True) ((chainO L n).drop 1) w):=by
 have hx1:=hx.1;have hx2:=hx.2.1;unfold maxLen at hx2;have HX:=Lh_ hx;have HB:=Lh_ hB;have HV:=Lh_ hv;have HN:=Lh_ hn;clear hx hB hv hn;refine callsIn_wide.1 (callsIn_of_wp_marks (n:=3) Tryz.func41 rfl trivial ?_ rfl);simp only [Tryz.ntmps41,List.size_toArray,List.length_cons,List.length_nil,Nat.reduceAdd,Nat.reduceSub,Array.replicate_succ,Array.replicate_zero,List.push_toArray,List.append_toArray,List.nil_append,List.cons_append];rw [wpIn_wide];go_upto_region 2 with fail
 obtain ⟨w1,hw1,hbw1,HGw1,HXtw1⟩:=bx_ w [.slice A L.length c] 28;try simp only [hw1]
 have HSTEPw1:=Lh_ hbw1;have HSw1:=Lh_ (show w.heap.size≤w1.heap.size from hbw1.size);have HBw1:=Lh_ hbw1;clear hw1 hbw1;try rw [← HGw1.out]
 obtain ⟨w2,hw2,hbw2,HGw2,HXnw2⟩:=bx_ w1 [.int .i64 n] 3;try simp only [hw2]
 have HSTEPw2:=Lh_ hbw2;have HSw2:=Lh_ (show w1.heap.size≤w2.heap.size from hbw2.size);have HBw2:=tb_ HBw1 hbw2;have tw2:=kb_ HXtw1 hbw2;clear hw2 hbw2;try rw [← HGw2.out]
 obtain ⟨w3,hw3,hbw3,HGw3,HXlw3⟩:=bx_ w2 [.slice none 0 0] 26;try simp only [hw3]
 have HSTEPw3:=Lh_ hbw3;have HSw3:=Lh_ (show w2.heap.size≤w3.heap.size from hbw3.size);have HBw3:=tb_ HBw2 hbw3;have tw3:=kb_ tw2 hbw3;have nw3:=kb_ HXnw2 hbw3;clear hw3 hbw3;try rw [← HGw3.out]
 refine wp_nopanic ?_;refine wp_region_held_drew (S:=fun w'=>BoxL w' w.heap.size [.slice A L.length c]∧BoxL w' w1.heap.size [.int .i64 n]) (by kernel_rfl) ⟨tw3.out.drew,nw3.out.drew⟩ (fun hS0=>?_);obtain ⟨wd,hwd⟩:∃ z,World.drew w3=z:=⟨_,rfl⟩;rw [hwd] at hS0 ⊢;have hbd:Below w3.heap.size w3 wd:=by rw [← hwd];exact below_drewN_self _ _ 1
 clear hwd;have HB3d:=Lh_ hbd;have HSwd:=Lh_ (show w3.heap.size≤wd.heap.size from hbd.size);have HBwd:=tb_ HBw3 hbd;have twd:=kb_ tw3 hbd;have nwd:=kb_ nw3 hbd;have lwd:=kb_ HXlw3 hbd;clear hbd;have HS1:=Lh_ hS0;clear hS0;refine tk1 0 7 (.agg #[.slice A L.length c]) rfl (fun w' hS=>by (have u0_:=hS.1.1 0 _ rfl;have u1_:=hS.2.1 0 _ rfl;go_simp)) HS1.out ?_;try simp only [Act.put,sA_,sB_,sC_]
 refine tk1 2 9 (.int .i64 n) rfl (fun w' hS=>by (have u0_:=hS.1.1 0 _ rfl;have u1_:=hS.2.1 0 _ rfl;go_simp)) HS1.out ?_;try simp only [Act.put,sA_,sB_,sC_]
 refine rd1 1 (o:=⟨some 8,.call ⟨_,_,_⟩,_,_,_,_⟩) rfl (fun K hK=>?_);go_simp;go_at_call 91;refine (look_any A c L wd B (Nat.le_trans HB.out HBwd.out.size) (HX.out.keep (HBwd.out.mono HB.out)) (fun d hd=>(HV.out.small d hd).1) HV.out.size).mono ?_;rintro e' q1 ⟨hb_,bp,bo,rfl,hmp_,hmo_,qbp_,-⟩;have HSQ:=Lh_ (show (BoxL q1 w.heap.size [.slice A L.length c]∧BoxL q1 w1.heap.size [.int .i64 n]) from ⟨HS1.out.1.kept (grown_none hb_) (fun e=>by cases e),HS1.out.2.kept (grown_none hb_) (fun e=>by cases e)⟩);have HMP:=Lh_ hmp_;have HBP0:=Lh_ qbp_;clear hmp_ hmo_ qbp_;refine hK.out _ _ HSQ.out (fun _=>?_);clear hK K;try simp only [Act.put,sA_,sB_,sC_]
 have HBd1:=Lh_ hb_;have HSq1:=Lh_ (show wd.heap.size≤q1.heap.size from hb_.size);have HBq1:=tb_ HBwd hb_;have tq1:=kb_ twd hb_;have nq1:=kb_ nwd hb_;have lq1:=kb_ lwd hb_;clear hb_;refine rd1 3 (o:=⟨some 10,.call ⟨_,_,_⟩,_,_,_,_⟩) rfl (fun K hK=>?_);go_simp;go_at_call 92;refine (up_any _ _ _ n _).mono ?_;rintro e' u2 ⟨rfl,hw_⟩;obtain ⟨u1,hu1⟩:∃ z,q1.alloc (.cells #[.slice A L.length c,.map (some bp),.map (some bo)] 112)=z:=⟨_,rfl⟩;have hb_:Below q1.heap.size q1 u1:=by rw [← hu1];exact (Below.refl _ _).alloc (Nat.le_refl _) _
 have HGu1:=Lh_ (show u1.heap.size=q1.heap.size+1 by rw [← hu1];simp);have HXv:=Lh_ (show BoxL u1 q1.heap.size [.slice A L.length c,.map (some bp),.map (some bo)] from box_mk hu1);have HMP1:=Lh_ (HMP.out.next hb_);rw [hu1] at hw_;try rw [← HGu1.out]
 clear hu1;have HB1u:=Lh_ hb_;have HSu1:=Lh_ (show q1.heap.size≤u1.heap.size from hb_.size);have HBu1:=tb_ HBq1 hb_;have tu1:=kb_ tq1 hb_;have nu1:=kb_ nq1 hb_;have lu1:=kb_ lq1 hb_;clear hb_;have hb_:Below u1.heap.size u1 u2:=by rw [hw_];exact (Below.refl _ _).alloc (Nat.le_refl _) _
 have HGu2:=Lh_ (show u2.heap.size=u1.heap.size+1 by rw [hw_];simp);have HXi:=Lh_ (show BoxL u2 u1.heap.size [.int .i64 n] from box_mk hw_.symm);have HMP2:=Lh_ (HMP1.out.next hb_);clear hw_;have HBuu:=Lh_ hb_;have HSu2:=Lh_ (show u1.heap.size≤u2.heap.size from hb_.size);have HBu2:=tb_ HBu1 hb_;have tu2:=kb_ tu1 hb_;have nu2:=kb_ nu1 hb_;have lu2:=kb_ lu1 hb_;have vu2:=kb_ HXv hb_;clear hb_;refine hK.out _ _ ⟨tu2.out,nu2.out⟩ (fun _=>?_);clear hK K;try simp only [Act.put,sA_,sB_,sC_]
 refine wpAnyH_done (by kernel_rfl) ?_ _;dsimp only [nOnly];have HUP:=Lh_ (show UpSt Tryz.prog 3 (q1.heap.size) (u1.heap.size) bp bo A c L.length B L n u2 from ⟨vu2.out,HXi.out,HMP2.out,HX.out.keep (HBu2.out.mono HB.out),Nat.le_trans HB.out HBu2.out.size⟩);have HNUM:=Lh_ (show (B≤w.heap.size∧w.heap.size<w1.heap.size∧w1.heap.size<w2.heap.size∧w2.heap.size<w3.heap.size)∧w3.heap.size≤q1.heap.size∧q1.heap.size<u1.heap.size∧u1.heap.size<u2.heap.size from ⟨⟨HB.out,by have:=HGw1.out;omega,by have:=HGw2.out;omega,by have:=HGw3.out;omega⟩,by have:=HSwd.out;have:=HSq1.out;omega,by have:=HGu1.out;omega,by have:=HGu2.out;omega⟩);have HBP:=Lh_ (show bp<q1.heap.size∧w3.heap.size≤bp from ⟨HMP.out.lt,by have:=HBP0.out;have:=HSwd.out;omega⟩);have HDL:=Lh_ (show ∀ (pre:List DevX) (y:Dev) t,pre.map (·.1) ++ y :: t=chainO L n→y ∈ L∧pre.length+1≤256 from fun pre y t h=>⟨chain_mem L _ n y (show y ∈ chainO L n by rw [← h];simp),by have h1:=chain_len L L.length n;have h2:(chainO L n).length=(pre.map (·.1)).length+(y :: t).length:=(by rw [← h,List.length_append]);have h3:=HV.out.size;unfold chainO at h2;simp at h2;omega⟩);have HB2:=Lh_ (show Below w2.heap.size w2 u2 from ((((show Below w2.heap.size w2 w3 from HSTEPw3.out).trans (HB3d.out.mono (by have:=HNUM.out;omega))).trans (HBd1.out.mono (by have:=HNUM.out;have:=HSwd.out;omega))).trans (HB1u.out.mono (by have:=HNUM.out;omega))).trans (HBuu.out.mono (by have:=HNUM.out;omega)));have HXN:=Lh_ (show BoxL w2 w1.heap.size [.int .i64 n] from HXnw2.out);go_wp2_with fail;refine wpIn_wide.1 (wpIn_rangeB (n:=3) 11 6 rfl (by omega) rfl trivial (enters_of Tryz.func133 (by kernel_rfl) rfl) (up1_seq 2 (q1.heap.size) (u1.heap.size) bp bo A c L.length B L n u2 HUP.out HV.out.wf.uniq HN.out (by have:=HV.out.size;omega) ⟨by have:=HNUM.out;omega,by have:=HNUM.out;have:=HBP.out;omega,by have:=HNUM.out;omega⟩) (fun k hk=>by have:=HNUM.out;show k≠_∧k≠_;have hk:k=u1.heap.size:=hk;omega) (fun h=>by have:=HNUM.out;have:=HBP.out;unfold upZ at h;omega) (SubJ 32 w2 (w2.heap.size) (u2.heap.size+3) (notIdx n)) (SubJ.abid (by have:=HNUM.out;omega) (by have:=HNUM.out;omega) (by have:=HNUM.out;omega)) (SubJ.putl (by have:=HNUM.out;omega) (by have:=HNUM.out;omega) (by omega)) (fun W0 hW0 hs0=>⟨HB2.out.trans (hW0.mono HB2.out.size),by have:=HNUM.out;omega,.slice none 0 0,lu2.out.kept (grown_none hW0) (fun e=>by cases e),(fun k hk=>by cases hk),OwnsS.nil_ _ _ _ _⟩) (nxX_keep (by have:=HNUM.out;omega)) (fun x=>#[.int .i64 x.1.idx,.int .i64 x.1.par,.string x.1.nm,.string x.1.orig,.string x.1.sub,.string x.1.drv,.string x.1.ali,.int .i64 x.1.kind,.int .i64 x.1.num,.slice x.2.1 x.1.attrs.length x.2.2]) 32 ?assign ?body ?done)
 case assign =>
  intro l x W0 K hK;simp only [encV] at hK ⊢;gi_wp2
  exact hK
 case body =>
  intro pre x N W0 g7 hJ0_ hN_ hNg_ hNx_ hbox_ hsz_;have HJ0:=Lh_ hJ0_;revert hJ0_ hN_ hNg_ hNx_ hbox_ hsz_
  revert HJ0
  revert x
  rintro ⟨y,A2,c2⟩ HJ0 hJ hN hNg hNx hbox hsz;obtain ⟨hjb,hjN,v,hjx,hjv,hjo⟩:=hJ;obtain ⟨⟨t,ht⟩,hok,hat⟩:=hNx;have y0:=hbox.1 0 _ rfl;have hxn:=HXN.out.kept (grown_none hjb) (fun e=>by cases e);have x0:=hxn.1 0 _ rfl;clear hxn;obtain ⟨hym,hpl⟩:=HDL.out pre y t ht;have HNW:=Lh_ (show N≤W0.heap.size∧g7<W0.heap.size from ⟨Nat.le_trans hNg (Nat.le_of_lt hbox.2.2),hbox.2.2⟩);have HWB:=Lh_ (show (u2.heap.size+3)≤W0.heap.size by have:=hbox.2.2;omega);have HJB:=Lh_ hjb;have HJX:=Lh_ hjx;have HJV:=Lh_ hjv;have HJO:=Lh_ hjo;have HJN:=Lh_ hjN;have HNG:=Lh_ hNg;have HNN:=Lh_ hN;have HSZ:=Lh_ hsz;have HOK:=Lh_ hok;have HAT:=Lh_ hat;have HBX:=Lh_ hbox;have HBW:=Lh_ (show B≤W0.heap.size by have:=HNUM.out;omega);have HAY:=Lh_ (show y.attrs.length≤1000000 by have:=attrs_le (HV.out.chk y hym);omega);have hfl:((pre.map (·.1)).filter (notIdx n)).length≤pre.length:=by have:=List.length_filter_le ((notIdx n)) (pre.map (·.1));simpa using this
  have HAM:=Lh_ (show ((pre.map (·.1)).filter (notIdx n)).length+1≤maxLen∧(((pre.map (·.1)).filter (notIdx n)).length+1) * 136≤140737488355328 by constructor <;> first | (unfold maxLen;omega) | omega);clear hjb hjN hjx hjv hjo ht hok hat hbox hsz hNg hN hpl hfl hym;simp only [encV];by_cases hyn:y.idx=n
  ·
   have HP:=Lh_ (show notIdx n y=false from decide_eq_false (fun h=>h hyn));have en:(y.idx != n)=false:=by rw [hyn];simp
   clear hyn;gi_wp2
   exact sub_skip (x:=(y,A2,c2)) (a:={ tmps:=#[],defers:=[] }) HJ0.out HP.out HNW.out.1
  ·
   have HP:=Lh_ (show notIdx n y=true from decide_eq_true hyn);have en:(y.idx != n)=true:=by simpa using hyn
   clear hyn HJ0;gi_wp2_with fail
   clear y0 x0;refine wpIn_region_held_drew (S:=fun w'=>BoxL w' (w2.heap.size) [v]∧BoxL w' g7 [.int .i64 y.idx,.int .i64 y.par,.string y.nm,.string y.orig,.string y.sub,.string y.drv,.string y.ali,.int .i64 y.kind,.int .i64 y.num,.slice A2 y.attrs.length c2]) (late:=fun j=>j == 5) (by kernel_rfl) ⟨HJX.out.drew,HBX.out.drew⟩ (fun hS0=>?_);obtain ⟨wd,hwd⟩:∃ z,World.drew W0=z:=⟨_,rfl⟩;rw [hwd] at hS0 ⊢;have hbd:Below W0.heap.size W0 wd:=by rw [← hwd];exact below_drewN_self _ _ 1
   clear hwd;have HBD:=Lh_ hbd;have HS1:=Lh_ hS0;clear hbd hS0;refine wpAnyHI_take (i:=0) (oi:=⟨some 16,_,_,_,_,_⟩) (v:=v) (by kernel_rfl) (by kernel_rfl) rfl (by kernel_rfl) (by kernel_rfl) (by kernel_rfl) (fun _ _ _ h=>h) (fun _=>rfl) (Or.inl ⟨by rfl,fun w' hS=>by (have u0_:=hS.1.1 0 _ rfl;go_simp)⟩) HS1.out ?_;try simp only [Act.put,sA_,sB_,sC_]
   refine wpAnyHI_take (i:=1) (oi:=⟨some 17,_,_,_,_,_⟩) (v:=.agg #[.int .i64 y.idx,.int .i64 y.par,.string y.nm,.string y.orig,.string y.sub,.string y.drv,.string y.ali,.int .i64 y.kind,.int .i64 y.num,.slice A2 y.attrs.length c2]) (by kernel_rfl) (by kernel_rfl) rfl (by kernel_rfl) (by kernel_rfl) (by kernel_rfl) (fun _ _ _ h=>h) (fun _=>rfl) (Or.inl ⟨by rfl,fun w' hS=>by (have u0_:=hS.2.1 0 _ rfl;have u1_:=hS.2.1 1 _ rfl;have u2_:=hS.2.1 2 _ rfl;have u3_:=hS.2.1 3 _ rfl;have u4_:=hS.2.1 4 _ rfl;have u5_:=hS.2.1 5 _ rfl;have u6_:=hS.2.1 6 _ rfl;have u7_:=hS.2.1 7 _ rfl;have u8_:=hS.2.1 8 _ rfl;have u9_:=hS.2.1 9 _ rfl;go_simp)⟩) HS1.out ?_;try simp only [Act.put,sA_,sB_,sC_]
   refine wpAnyHI_ready (rs:=[2]) (by kernel_rfl) (by simp) ?_;refine AllReadyHI.cons (o:=⟨some 18,.call ⟨_,_,_⟩,_,_,_,_⟩) rfl (fun K hK=>?_) AllReadyHI.nil;go_simp;refine ⟨trivial,?_⟩;refine (CallsIn.inRound _ (callsIn_wide.2 (copied_any y A2 c2 wd B (Nat.le_trans HBW.out HBD.out.size) (HAT.out.keep (HBD.out.mono HBW.out)) HAY.out))).mono ?_;rintro e q1 ⟨hq1,A4,c4,rfl,hsl⟩;have HQ1:=tb_ HBD hq1;have HSL:=Lh_ hsl;have HSQ1:=Lh_ (show BoxL q1 (w2.heap.size) [v]∧BoxL q1 g7 [.int .i64 y.idx,.int .i64 y.par,.string y.nm,.string y.orig,.string y.sub,.string y.drv,.string y.ali,.int .i64 y.kind,.int .i64 y.num,.slice A2 y.attrs.length c2] from ⟨HS1.out.1.kept (grown_none hq1) (fun e=>by cases e),HS1.out.2.kept (grown_none hq1) (fun e=>by cases e)⟩);clear hq1 hsl;refine hK.out _ _ (fun _=>HSQ1.out) (fun _=>?_);clear hK K;try simp only [Act.put,sA_,sB_,sC_]
   refine wpAnyHI_ready (rs:=[3]) (by kernel_rfl) (by simp) ?_;refine AllReadyHI.cons (o:=⟨some 19,.buildSlice _ _ _,_,_,_,_⟩) rfl (fun K hK=>?_) AllReadyHI.nil;go_simp;obtain ⟨q2,hq2⟩:∃ z,q1.alloc (.cells #[.int .i64 y.idx,.int .i64 y.par,.string y.nm,.string y.orig,.string y.sub,.string y.drv,.string y.ali,.int .i64 y.kind,.int .i64 y.num,.slice A4 y.attrs.length c4] 32)=z:=⟨_,rfl⟩;have hb2:Below q1.heap.size q1 q2:=by rw [← hq2];exact (Below.refl _ _).alloc (Nat.le_refl _) _
   have HGA:=Lh_ (show q2.heap.size=q1.heap.size+1 by rw [← hq2];simp);have HNEW:=Lh_ (lit_cells hq2 (l:=devCells y A4 c4) rfl);try rw [hq2]
   clear hq2;have HQ2:=tb_ HQ1 hb2;have HSL2:=Lh_ (HSL.out.below hb2 (fun x hx=>hx.2));have HSQ2:=Lh_ (show BoxL q2 (w2.heap.size) [v]∧BoxL q2 g7 [.int .i64 y.idx,.int .i64 y.par,.string y.nm,.string y.orig,.string y.sub,.string y.drv,.string y.ali,.int .i64 y.kind,.int .i64 y.num,.slice A2 y.attrs.length c2] from ⟨HSQ1.out.1.kept (grown_none hb2) (fun e=>by cases e),HSQ1.out.2.kept (grown_none hb2) (fun e=>by cases e)⟩);clear hb2;refine hK.out _ _ (fun _=>HSQ2.out) (fun _=>?_);clear hK K;try simp only [Act.put,sA_,sB_,sC_]
   have HRD:=Lh_ (show RepS.rdS q2 (fun b=>(u2.heap.size+3)≤b∧b<q2.heap.size∧v.ownBlock≠some b) y (devCells y A4 c4) from rd_copied (b0:=wd.heap.size) HOK.out (HSL2.out.mono (fun b hb=>⟨hb.1,by have:=hb.2;have:=HGA.out;omega⟩) (fun _ _ _ _ hu=>hu)) (by have:=HBD.out.size;have:=HWB.out;omega) (fun k hk=>by have:=(HJV.out k hk).2;have:=HBD.out.size;have:=HNW.out;omega));refine wpAnyHI_ready (rs:=[4]) (by kernel_rfl) (by simp) ?_;refine AllReadyHI.cons (o:=⟨some 20,.call ⟨_,_,_⟩,_,_,_,_⟩) rfl (fun K hK=>?_) AllReadyHI.nil;refine step_appIn rfl _ _ rfl v (.slice (some ⟨q1.heap.size,0,none⟩) 1 1) (by simp [Act.eval,Act.put]) (by simp [Act.eval,Act.put]) (run_app1 E_dev _ v _ (HJO.out.below HQ2.out) q1.heap.size y (devCells y A4 c4) HNEW.out HRD.out HAM.out.1 HAM.out.2 (by have:=HQ2.out.size;have:=HWB.out;omega)) ?_;rintro v2 q3 ⟨ho,hg,-⟩;obtain ⟨A9,c9,rfl,-⟩:=ho.cs;have HO3:=Lh_ ho;have HG3:=Lh_ hg;have HSQ3:=Lh_ (show BoxL q3 (w2.heap.size) [v]∧BoxL q3 g7 [.int .i64 y.idx,.int .i64 y.par,.string y.nm,.string y.orig,.string y.sub,.string y.drv,.string y.ali,.int .i64 y.kind,.int .i64 y.num,.slice A2 y.attrs.length c2] from ⟨HSQ2.out.1.kept hg (fun e=>by have:=(HJV.out _ e.symm).1;have:=HNUM.out;omega),HSQ2.out.2.kept hg (fun e=>by have:=(HJV.out _ e.symm).2;have:=HNG.out;omega)⟩);clear ho hg;refine hK.out _ _ (fun _=>HSQ3.out) (fun _=>?_);clear hK K;try simp only [Act.put,sA_,sB_,sC_]
   refine wpAnyHI_ready (rs:=[5]) (by kernel_rfl) (by simp) ?_;refine AllReadyHI.cons (o:=⟨none,.store _ _ _,_,_,_,_⟩) rfl (fun K hK=>?_) AllReadyHI.nil;have u0_:=HSQ3.out.1.1 0 _ rfl;have uf_:=HSQ3.out.1.2.1;go_simp;refine hK.out _ _ (fun h=>by cases h) (fun _=>?_);clear hK K;try simp only [Act.put,sA_,sB_,sC_]
   refine wpAnyHI_done (by kernel_rfl) ?_ _;exact sub_round (x:=(y,A2,c2)) (a:={ tmps:=#[],defers:=[] }) HJB.out HJN.out HJX.out HJV.out HQ2.out HG3.out (by have h:=HO3.out;rw [List.length_append] at h;rw [filt_app HP.out];exact h) (by have:=HNUM.out;omega) (fun h=>by have:=HNUM.out;have:=HBP.out;unfold upZ at h;omega) (fun k hk h=>by have:=HNUM.out;have:=HBP.out;unfold upZ at h;omega) (by have:=HNUM.out;omega) (by have:=HSZ.out;omega)
 case done =>
  intro xs N W0 hS hJ hD;obtain ⟨v,A9,c9,rfl,hbx,hend⟩:=hJ.done hS (by have:=HNUM.out;omega);have HD:=Lh_ hD;have HE:=Lh_ hend;have HS:=Lh_ hS;clear hS hJ hD hend;have s0:=hbx.1 0 _ rfl;clear hbx;go_wp2;refine ⟨by simp,.inl ⟨_,_,rfl,run_takeDeferred HD.out,?_⟩⟩;obtain ⟨h1,h2⟩:=HE.out u2.heap.size (.deferred none) (by have:=HNUM.out;omega) (by omega);exact ⟨_,results_tmp rfl _ _ _,HBw2.out.trans (h1.mono HBw2.out.size),_,rfl,by rw [← anc_drop HV.out.wf];exact h2.low (by have:=HNUM.out;omega)⟩
end Go.Proofs.YtjgllhlilbchpaaGreatDoor
