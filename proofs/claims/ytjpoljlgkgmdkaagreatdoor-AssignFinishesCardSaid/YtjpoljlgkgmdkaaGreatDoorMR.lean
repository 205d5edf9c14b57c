/-
  Rows that a call has made and writes in place: a list's value exchanged,a part of the row copied,the rest cleared. No program is named here.
-/
import Derived.Laws.CopyRow
import Derived.Laws.IdiomCopy
import Derived.Lib.AppendZerosOnto
import Derived.Test.YtjpoljlgkgmdkaaGreatDoorMF
import Derived.Lib.Overlaps
import Derived.Laws.Externs
import Derived.Test.YtjpoljlgkgmdkaaGreatDoorRows
import Derived.Test.YtjpoljlgkgmdkaaGreatDoorMShf
import Derived.Deep.AppendLies
set_option linter.unusedSimpArgs false
set_option linter.unusedVariables false
namespace Go.Cold
open Go Go.RowKit Go.Proofs.YtjpoljlgkgmdkaaGreatDoor
open Go.Proofs hiding intOf
section
variable {α:Type} [RepS α] {F:Nat→Prop} {w w':World} {base:Nat} {T:TypeId} {v:Value} {xs:List α}
structure RowIn (F:Nat→Prop) (w:World) (base:Nat) (T:TypeId) (g cap:Nat) (xs:List α) (cur:Array Value) (css:List (List Value)):Prop where
 lo:base≤g
 heap:w.heap[g]? = some (.cells cur T (0,0))
 le:xs.length≤cap
 lim:cap≤maxLen
 size:cur.size=cap * Rep.size α
 len:css.length=xs.length
 rd:∀ (i:Nat) (x:α) (cs:List Value),xs[i]? = some x→css[i]? = some cs→RepS.rdS w (fun b=>F b∧b<w.heap.size∧b≠g) x cs
 row:cur.toList.take (xs.length * Rep.size α)=css.flatten
theorem OwnsS.opened (h:OwnsS F w base T v xs):(v=.slice none 0 0∧xs=[])∨∃ g cap cur css,v=.slice (some ⟨g,0,none⟩) xs.length cap∧RowIn F w base T g cap xs cur css:=by
 obtain ⟨css,⟨D,A⟩,B,C⟩:=h;rcases A with ⟨rfl,h0⟩ | ⟨g,cap,cur,rfl,q1,q2,q3,q4,q5,q6⟩
 · exact .inl ⟨rfl,List.eq_nil_of_length_eq_zero h0⟩
 exact .inr ⟨g,cap,cur,css,rfl,q1,q2,q3,q4,q5,B,fun i x cs hx hcs=>RepS.mono (fun b hb=>⟨hb.1,hb.2.1,fun e=>hb.2.2 (by rw [e];rfl)⟩) (fun _ _ _ _ hu=>hu) (C i x cs hx hcs),q6⟩
theorem flat_size {w:World} {S:Nat→Prop} {xs:List α} {css:List (List Value)} (h:css.length=xs.length) (hr:∀ (i:Nat) (x:α) (cs:List Value),xs[i]? = some x→css[i]? = some cs→RepS.rdS w S x cs):css.flatten.length=xs.length * Rep.size α:=(flat_len h hr).1
theorem RowIn.owns {g cap:Nat} {cur:Array Value} {css:List (List Value)} (h:RowIn F w base T g cap xs cur css):OwnsS F w base T (.slice (some ⟨g,0,none⟩) xs.length cap) xs:=by
 refine ⟨css,⟨flat_size h.len h.rd,.inr ⟨g,cap,cur,rfl,h.lo,h.heap,h.le,h.lim,h.size,h.row⟩⟩,h.len,fun i x cs hx hcs=>RepS.mono (fun b hb=>⟨hb.1,hb.2.1,fun e=>hb.2.2 (by injection e with e;exact e.symm)⟩) (fun _ _ _ _ hu=>hu) (h.rd i x cs hx hcs)⟩
theorem row_css {S:Nat→Prop} {css:List (List Value)} (h:css.length=xs.length) (hr:∀ (i:Nat) (x:α) (cs:List Value),xs[i]? = some x→css[i]? = some cs→RepS.rdS w S x cs):∀ cs ∈ css,cs.length=Rep.size α:=fun cs hcs=>by
 obtain ⟨i,hi,rfl⟩:=List.getElem_of_mem hcs;exact RepS.lenS (hr i xs[i] css[i] (List.getElem?_eq_getElem (by omega)) (List.getElem?_eq_getElem hi))
theorem flat_take {n:Nat}:∀ {css:List (List Value)} (k:Nat),(∀ cs ∈ css,cs.length=n)→css.flatten.take (k * n)=(css.take k).flatten∧css.flatten.drop (k * n)=(css.drop k).flatten
 | [],k,_=>by simp
 | c :: r,0,_=>by simp
 | c :: r,k+1,h=>by
  have hc:=h c List.mem_cons_self;obtain ⟨h1,h2⟩:=flat_take (css:=r) k (fun cs hcs=>h cs (List.mem_cons_of_mem _ hcs));rw [List.flatten_cons,Nat.succ_mul,List.take_succ_cons,List.drop_succ_cons,List.flatten_cons,← h1,← h2,← hc];constructor
  ·
   rw [Nat.add_comm,List.take_append,List.take_of_length_le (by omega)]
   congr 2;omega
  rw [Nat.add_comm,List.drop_append,List.drop_eq_nil_of_le (by omega),List.nil_append];congr 1;omega
theorem grown_setRow (w:World) (g:Nat) (cs:Array Value):w.grownBy (w.setRow g cs) (some g) :=
 ⟨rfl,rfl,rfl,by simp [World.setRow],fun k hk hne=>setRow_other w g k cs (fun e=>hne (by rw [e]))⟩
theorem RowIn.write {g cap:Nat} {cur:Array Value} {css:List (List Value)} (h:RowIn F w base T g cap xs cur css) {ys:List α} {dss:List (List Value)} {cur':Array Value} (h1:ys.length≤cap) (h2:cur'.size=cur.size) (h3:dss.length=ys.length)
  (h4:∀ (i:Nat) (y:α) (cs:List Value),ys[i]? = some y→dss[i]? = some cs→RepS.rdS w (fun b=>F b∧b<w.heap.size∧b≠g) y cs) (h5:cur'.toList.take (ys.length * Rep.size α)=dss.flatten):RowIn F (w.setRow g cur') base T g cap ys cur' dss:=by
 have A:=grown_setRow w g cur';exact ⟨h.lo,setRow_heap w g cur cur' T (0,0) h.heap,h1,h.lim,h2.trans h.size,h3,fun i y cs hy hcs=>RepS.mono (fun b hb=>⟨hb.1,by have:=A.size;omega,hb.2.2⟩) (fun b o u hb hu=>A.cell hu (fun e=>hb.2.2 (Option.some.inj e))) (h4 i y cs hy hcs),h5⟩
theorem RowIn.lt {g cap:Nat} {cur:Array Value} {css:List (List Value)} (h:RowIn F w base T g cap xs cur css):g<w.heap.size:=(Array.getElem?_eq_some_iff.1 h.heap).1
theorem RowIn.css {g cap:Nat} {cur:Array Value} {css:List (List Value)} (h:RowIn F w base T g cap xs cur css):∀ cs ∈ css,cs.length=Rep.size α:=row_css h.len h.rd
theorem RowIn.one {g cap:Nat} {cur:Array Value} {css:List (List Value)} (h:RowIn F w base T g cap xs cur css):∀ u ∈ css.flatten,u.oneCell'=true:=(flat_len h.len h.rd).2
theorem RowIn.at_ {g cap:Nat} {cur:Array Value} {css:List (List Value)} (h:RowIn F w base T g cap xs cur css) {i:Nat} {x:α} (hx:xs[i]? = some x):∃ cs,css[i]? = some cs∧RepS.rdS w (fun b=>F b∧b<w.heap.size∧b≠g) x cs∧∀ j u,cs[j]? = some u→w.cell? ⟨g,i * Rep.size α+j,none⟩=some u:=by
 have C:=(List.getElem?_eq_some_iff.1 hx).1;have A:css[i]? = some (css[i]'(by have:=h.len;omega)):=List.getElem?_eq_getElem _;refine ⟨_,A,h.rd i x _ hx A,fun j u hu=>?_⟩;have D:j<Rep.size α:=by
  have:=(List.getElem?_eq_some_iff.1 hu).1;rw [RepS.lenS (h.rd i x _ hx A)] at this;exact this
 rw [cell_of_row w g (i * Rep.size α+j) cur T (0,0) h.heap];have:=flatten_row h.css A D;have B:i * Rep.size α+j<xs.length * Rep.size α:=by
  have:=Nat.mul_le_mul_right (Rep.size α) (show i+1≤xs.length from C);rw [Nat.succ_mul] at this;omega
 rw [← h.row,List.getElem?_take,if_pos B,hu] at this;simpa using this
theorem RowIn.frozen {g cap:Nat} {cur:Array Value} {css:List (List Value)} (h:RowIn F w base T g cap xs cur css) (j:Nat):w.frozen? ⟨g,j,none⟩=false:=by
 simp [World.frozen?,h.heap]
theorem setCells_row {g:Nat} {t:TypeId} {fr:Nat × Nat}:∀ (vs:List Value) (o:Nat) (cur:Array Value) (w:World),w.heap[g]? = some (.cells cur t fr)→o+vs.length≤cur.size→
  w.setCells g o vs=w.setRow g (cur.toList.take o ++ vs ++ cur.toList.drop (o+vs.length)).toArray
 | [],o,cur,w,hg,_=>by
  simp only [List.append_nil,List.length_nil,Nat.add_zero,List.take_append_drop,Array.toArray_toList];rw [setRow_self w g cur t fr hg];rfl
 | v :: r,o,cur,w,hg,hl=>by
  have h1:w.setCells g o (v :: r)=(w.setCell ⟨g,o,none⟩ v).setCells g (o+1) r:=rfl;rw [h1,setCell_eq_setRow w g o cur t fr v hg,setCells_row r (o+1) (cur.setIfInBounds o v) _ (setRow_heap w g cur _ t _ hg) (by simp at hl ⊢;omega),setRow_setRow];congr 2
  have e:=list_seg_step cur.toList o v r (by simp at hl ⊢;omega);simpa [Array.toList_setIfInBounds,Nat.add_assoc] using e
theorem splice_parts {β:Type} (X1 M X2 Y cs:List β) (hM:M.length=cs.length):((X1 ++ M ++ X2 ++ Y).take X1.length ++ cs ++ (X1 ++ M ++ X2 ++ Y).drop (X1.length+cs.length)).take (X1.length+cs.length+X2.length)=X1 ++ cs ++ X2:=by
 have A:(X1 ++ M ++ X2 ++ Y).take X1.length=X1:=by rw [List.append_assoc,List.append_assoc,List.take_left'];rfl
 have B:(X1 ++ M ++ X2 ++ Y).drop (X1.length+cs.length)=X2 ++ Y:=by rw [← hM,← List.length_append,List.append_assoc,List.drop_left'];rfl
 rw [A,B,← List.append_assoc,List.take_left'];simp only [List.length_append]
theorem row_splice {cur:Array Value} {css:List (List Value)} {n k:Nat} {cs:List Value} (hn:∀ c ∈ css,c.length=n) (hcs:cs.length=n) (hrow:cur.toList.take (css.length * n)=css.flatten) (hk:k<css.length) (hsz:css.length * n≤cur.size) :
  (cur.toList.take (k * n) ++ cs ++ cur.toList.drop (k * n+cs.length)).take (css.length * n)=(css.set k cs).flatten:=by
 have A:css.flatten.length=css.length * n:=by have h:=congrArg List.length hrow;rw [List.length_take] at h;have B:cur.toList.length=cur.size:=Array.length_toList;omega
 obtain ⟨I,K⟩:=flat_take k hn;obtain ⟨L,J⟩:=flat_take (k+1) hn;have E:(css[k]).length=n:=hn _ (List.getElem_mem hk);have D:k * n+n≤css.length * n:=by have:=Nat.mul_le_mul_right n (show k+1≤css.length from hk);rw [Nat.succ_mul] at this;exact this
 have F:css.flatten=(css.take k).flatten ++ css[k] ++ (css.drop (k+1)).flatten:=by
  have:css=css.take k ++ css[k] :: css.drop (k+1):=by rw [← List.drop_eq_getElem_cons hk,List.take_append_drop]
  exact (congrArg List.flatten this).trans (by rw [List.flatten_append,List.flatten_cons,List.append_assoc])
 have G:((css.take k).flatten).length=k * n:=by rw [← I,List.length_take,A];omega
 have H:((css.drop (k+1)).flatten).length=css.length * n - (k * n+n):=by rw [← J,List.length_drop,A,Nat.succ_mul]
 have C:cur.toList=(css.take k).flatten ++ css[k] ++ (css.drop (k+1)).flatten ++ cur.toList.drop (css.length * n):=by rw [← F,← hrow,List.take_append_drop]
 have B:=splice_parts (css.take k).flatten css[k] (css.drop (k+1)).flatten (cur.toList.drop (css.length * n)) cs (E.trans hcs.symm);rw [← C,G,H,hcs,show k * n+n+(css.length * n - (k * n+n))=css.length * n by omega] at B;rw [hcs,B,List.set_eq_take_append_cons_drop,if_pos hk,List.flatten_append,List.flatten_cons,List.append_assoc]
theorem RowIn.set_ {g cap:Nat} {cur:Array Value} {css:List (List Value)} (h:RowIn F w base T g cap xs cur css) {i:Nat} (hi:i<xs.length) {y:α} {cs:List Value} (hr:RepS.rdS w (fun b=>F b∧b<w.heap.size∧b≠g) y cs) :
  ∃ cur',w.setCells g (i * Rep.size α) cs=w.setRow g cur'∧RowIn F (w.setRow g cur') base T g cap (xs.set i y) cur' (css.set i cs):=by
 have A:cs.length=Rep.size α:=RepS.lenS hr;have B:xs.length * Rep.size α≤cur.size:=by rw [h.size];exact Nat.mul_le_mul_right _ h.le
 have C:i * Rep.size α+Rep.size α≤xs.length * Rep.size α:=by have:=Nat.mul_le_mul_right (Rep.size α) (show i+1≤xs.length from hi);rw [Nat.succ_mul] at this;exact this
 refine ⟨_,setCells_row cs _ cur w h.heap (by omega),h.write (by simpa using h.le) (by simp;omega) (by simp [h.len]) (fun j y' cs' hy hcs'=>?_) ?_⟩
 ·
  rw [List.getElem?_set] at hy hcs'
  by_cases hj:i=j
  ·
   subst hj
   rw [if_pos rfl,if_pos hi] at hy;rw [if_pos rfl,if_pos (by rw [h.len];exact hi)] at hcs';obtain rfl:=Option.some.inj hy;obtain rfl:=Option.some.inj hcs';exact hr
  rw [if_neg hj] at hy hcs';exact h.rd j y' cs' hy hcs'
 rw [List.length_set,← h.len];exact row_splice h.css A (by rw [h.len];exact h.row) (by rw [h.len];exact hi) (by rw [h.len];exact B)
theorem RowIn.cut {g cap:Nat} {cur:Array Value} {css:List (List Value)} (h:RowIn F w base T g cap xs cur css) (k:Nat) (hk:k≤xs.length):RowIn F w base T g cap (xs.take k) cur (css.take k):=by
 have A:(xs.take k).length=k:=by rw [List.length_take];omega
 refine ⟨h.lo,h.heap,by have:=h.le;omega,h.lim,h.size,by rw [List.length_take,List.length_take,h.len],fun i x cs hx hcs=>?_,?_⟩
 ·
  rw [List.getElem?_take] at hx hcs
  split at hx
  · rename_i h6;rw [if_pos h6] at hcs;exact h.rd i x cs hx hcs
  cases hx
 rw [A,← (flat_take k h.css).1,← h.row,List.take_take,Nat.min_eq_left (Nat.mul_le_mul_right _ hk)]
theorem RowIn.tail {g cap:Nat} {cur:Array Value} {css:List (List Value)} (h:RowIn F w base T g cap xs cur css) {o:Nat} {vs:List Value} (ho:xs.length * Rep.size α≤o) (hl:o+vs.length≤cap * Rep.size α) :
  ∃ cur',w.setCells g o vs=w.setRow g cur'∧RowIn F (w.setRow g cur') base T g cap xs cur' css:=by
 have A:=h.size;refine ⟨_,setCells_row vs o cur w h.heap (by omega),h.write h.le (by simp;omega) h.len h.rd ?_⟩;simp only [List.toList_toArray];rw [List.append_assoc,List.take_append_of_le_length (by simp;omega),List.take_take,Nat.min_eq_left ho];exact h.row
end
section
variable {P:Program}
theorem run_copy_n (w:World) (dT sT ty elem:TypeId) (g o dLen dCap:Nat) (a:Addr) (sLen sCap size k:Nat) (cur:Array Value) (t:TypeId) (cs:List Value)
  (hu:P.underlying dT=some (.slice elem)) (hs:∃ i,P.info? elem=some i∧i.size=size)
  (hg:w.heap[g]? = some (.cells cur t (0,0))) (hk:Nat.min sLen dLen=k) (hn:cs.length=k * size)
  (hsrc:∀ j v,cs[j]? = some v→w.cell? (a.add j)=some v) (hfit:o+cs.length≤cur.size) (h1:∀ v ∈ cs,v.oneCell'=true) :
  (Builtin.copy_ #[dT,sT] ty #[.slice (some ⟨g,o,none⟩) dLen dCap,.slice (some a) sLen sCap]).run P w =
   .ok (goInt k) (w.setRow g (cur.toList.take o ++ cs ++ cur.toList.drop (o+cs.length)).toArray):=by
 have D:=run_loadCells_list (P:=P) w a cs hsrc;have A:=run_storeCells_at P g o t cs 0 cur w hg (by simpa using hfit) h1;obtain ⟨i,C,B⟩:=hs;subst hk;simp [Builtin.copy_,run_underlying hu,Builtin.lenOf,Builtin.firstCells,sizeOf,typeInfo,C,B,← hn,D,A]
variable {ops:Array Oper} {rest:List Oper} {o:Oper} {a:Act} {Q:Exit→Act→World→Prop} {w:World}
theorem wpList_copyR {R:Value→World→Prop} {tys:Array TypeId} (hgd:o.guard=none) (s x:Operand) (ho:o.op=.call { callee:=.builtin .copy,args:=#[s,x],argTypes:=tys }) (v u:Value) (hs:a.eval s=v) (hx:a.eval x=u)
  (hrun:∃ v' w',(Builtin.copy_ tys o.type #[v,u]).run P w=.ok v' w'∧R v' w') (hK:∀ v' w',R v' w'→wpList P ops Q rest (a.put o.dst v') w'):wpList P ops Q (o :: rest) a w:=by
 refine wpList_plain hgd fun K hK'=>?_
 obtain ⟨v',w',B,A⟩:=hrun;unfold Oper.wp execOp;simp only [ho,resolve,invoke,builtin,Sem.run_bind,Sem.run_pure,Result.andThen_ok,List.map_toArray,List.map_cons,List.map_nil,hs,hx,B];exact hK' _ _ (hK _ _ A)
theorem step_copyR {K:Act→World→Prop} {Z:Prop} {R:Value→World→Prop} {tys:Array TypeId} (hgd:o.guard=none) (s x:Operand) (ho:o.op=.call { callee:=.builtin .copy,args:=#[s,x],argTypes:=tys }) (v u:Value) (hs:a.eval s=v) (hx:a.eval x=u)
  (hrun:∃ v' w',(Builtin.copy_ tys o.type #[v,u]).run P w=.ok v' w'∧R v' w') (hK:∀ v' w',R v' w'→K (a.put o.dst v') w'):if Region.wanted o (yielded ops a.tmps)=true then Oper.wp P o a w K Q else Z:=by
 have C:Region.wanted o (yielded ops a.tmps)=true:=by simp [Region.wanted,hgd]
 rw [if_pos C];obtain ⟨v',w',B,A⟩:=hrun;unfold Oper.wp execOp;simp only [ho,resolve,invoke,builtin,Sem.run_bind,Sem.run_pure,Result.andThen_ok,List.map_toArray,List.map_cons,List.map_nil,hs,hx,B];exact hK _ _ A
theorem wpList_appR {R:Value→World→Prop} {tys:Array TypeId} (hgd:o.guard=none) (s x:Operand) (ho:o.op=.call { callee:=.builtin .append,args:=#[s,x],argTypes:=tys }) (v u:Value) (hs:a.eval s=v) (hx:a.eval x=u)
  (hrun:∃ v' w',(Builtin.append_ tys o.type #[v,u]).run P w=.ok v' w'∧R v' w') (hK:∀ v' w',R v' w'→wpList P ops Q rest (a.put o.dst v') w'):wpList P ops Q (o :: rest) a w:=by
 refine wpList_plain hgd fun K hK'=>?_
 obtain ⟨v',w',B,A⟩:=hrun;unfold Oper.wp execOp;simp only [ho,resolve,invoke,builtin,Sem.run_bind,Sem.run_pure,Result.andThen_ok,List.map_toArray,List.map_cons,List.map_nil,hs,hx,B];exact hK' _ _ (hK _ _ A)
theorem wpList_clearR {R:Value→World→Prop} {tys:Array TypeId} (hgd:o.guard=none) (s:Operand) (ho:o.op=.call { callee:=.builtin .clear,args:=#[s],argTypes:=tys }) (v:Value) (hs:a.eval s=v)
  (hrun:∃ v' w',(Builtin.clear_ tys o.type #[v]).run P w=.ok v' w'∧R v' w') (hK:∀ v' w',R v' w'→wpList P ops Q rest (a.put o.dst v') w'):wpList P ops Q (o :: rest) a w:=by
 refine wpList_plain hgd fun K hK'=>?_
 obtain ⟨v',w',B,A⟩:=hrun;unfold Oper.wp execOp;simp only [ho,resolve,invoke,builtin,Sem.run_bind,Sem.run_pure,Result.andThen_ok,List.map_toArray,List.map_cons,List.map_nil,hs,B];exact hK' _ _ (hK _ _ A)
theorem run_clear_n (w:World) (t e ty:TypeId) (z:Value) (ht:P.underlying t=some (.slice e)) (hv:∀ w,(zeroValue e).run P w=.ok z w) (g o n c:Nat) (hn:0<n) (cur:Array Value) (T:TypeId) (hg:w.heap[g]? = some (.cells cur T (0,0)))
  (h1:∀ u ∈ z.cells,u.oneCell'=true) (hfit:o+n * z.cells.size≤cur.size) :
  ∃ vs:List Value,vs.length=n * z.cells.size∧(Builtin.clear_ #[t] ty #[.slice (some ⟨g,o,none⟩) n c]).run P w=.ok (.tuple #[]) (w.setRow g (cur.toList.take o ++ vs ++ cur.toList.drop (o+vs.length)).toArray):=by
 have C:(Builtin.zeroCells z.cells n).toList.length=n * z.cells.size:=by simp [Builtin.zeroCells,Nat.mul_comm]
 have E:∀ u ∈ (Builtin.zeroCells z.cells n).toList,u.oneCell'=true:=fun u hu=>by
  simp only [Builtin.zeroCells,Array.mem_toList_iff,Array.mem_map,Array.mem_range] at hu;obtain ⟨i,D,rfl⟩:=hu;by_cases hz:z.cells.size=0
  · rw [hz,Nat.mul_zero] at D;omega
  have A:i % z.cells.size<z.cells.size:=Nat.mod_lt _ (by omega);rw [getElem!_pos z.cells _ A];exact h1 _ (Array.getElem_mem A)
 have B:=run_storeCells_at P g o T (Builtin.zeroCells z.cells n).toList 0 cur w hg (by rw [C];simpa using hfit) E;refine ⟨_,C,?_⟩;obtain ⟨m,rfl⟩:∃ m,n=m+1:=⟨n - 1,by omega⟩;simp [Builtin.clear_,run_underlying ht,hv,B]
end
theorem two_parts {β:Type} {L X1 X2 cs:List β} {a n b:Nat} (h1:L.take a=X1) (ha:X1.length=a) (hn:cs.length=n) (hb:X2.length=b) (hL:a+n+b≤L.length) :
  (((L.take (a+n) ++ X2 ++ L.drop (a+n+b)).take a ++ cs ++ (L.take (a+n) ++ X2 ++ L.drop (a+n+b)).drop (a+n)).take (a+n+b)=X1 ++ (cs ++ X2))∧
  (((L.take a ++ cs ++ L.drop (a+n)).take (a+n) ++ X2 ++ (L.take a ++ cs ++ L.drop (a+n)).drop (a+n+b)).take (a+n+b)=X1 ++ (cs ++ X2)):=by
 have C:(L.take (a+n)).length=a+n:=by rw [List.length_take];omega
 have D:(X1 ++ cs).length=a+n:=by rw [List.length_append];omega
 have E:(X1 ++ (cs ++ X2)).length=a+n+b:=by rw [List.length_append,List.length_append];omega
 constructor
 ·
  have A:(L.take (a+n) ++ X2 ++ L.drop (a+n+b)).take a=X1:=by
   rw [List.append_assoc,List.take_append_of_le_length (by omega),List.take_take,Nat.min_eq_left (by omega),h1]
  have B:(L.take (a+n) ++ X2 ++ L.drop (a+n+b)).drop (a+n)=X2 ++ L.drop (a+n+b):=by
   rw [List.append_assoc,List.drop_left' C]
  rw [A,B,List.append_assoc,← List.append_assoc cs,← List.append_assoc X1,List.take_left' E]
 rw [h1,List.take_left' D,← List.append_assoc X1,List.take_left' (by rw [List.length_append];omega)]
section
variable {α:Type} [RepS α] {F:Nat→Prop} {w w':World} {base:Nat} {T:TypeId} {v:Value} {xs:List α}
def RdL (w:World) (S:Nat→Prop) (xs:List α) (css:List (List Value)):Prop:=∀ (i:Nat) (x:α) (cs:List Value),xs[i]? = some x→css[i]? = some cs→RepS.rdS w S x cs
theorem RdL.app {S:Nat→Prop} {ys:List α} {css dss:List (List Value)} (h:RdL w S xs css) (h2:RdL w S ys dss) (hl:css.length=xs.length):RdL w S (xs ++ ys) (css ++ dss):=fun i x cs hx hcs=>by
 by_cases hi:i<xs.length
 ·
  rw [List.getElem?_append_left hi] at hx
  rw [List.getElem?_append_left (by omega)] at hcs;exact h i x cs hx hcs
 rw [List.getElem?_append_right (by omega)] at hx;rw [List.getElem?_append_right (by omega),hl] at hcs;exact h2 _ x cs hx hcs
theorem RdL.cons {S:Nat→Prop} {y:α} {cs:List Value} {css:List (List Value)} (hy:RepS.rdS w S y cs) (h:RdL w S xs css):RdL w S (y :: xs) (cs :: css):=fun i x ds hx hds=>by
 cases i with
 | zero=>simp at hx hds;subst hx;subst hds;exact hy
 | succ i=>exact h i x ds (by simpa using hx) (by simpa using hds)
theorem RdL.drop {S:Nat→Prop} {css:List (List Value)} (h:RdL w S xs css) (k:Nat):RdL w S (xs.drop k) (css.drop k):=fun i x cs hx hcs=>by
 rw [List.getElem?_drop] at hx hcs;exact h _ x cs hx hcs
theorem RdL.take {S:Nat→Prop} {css:List (List Value)} (h:RdL w S xs css) (k:Nat):RdL w S (xs.take k) (css.take k):=fun i x cs hx hcs=>by
 rw [List.getElem?_take] at hx hcs;split at hx
 · rename_i hk;rw [if_pos hk] at hcs;exact h i x cs hx hcs
 cases hx
theorem RdL.mono {S S':Nat→Prop} {css:List (List Value)} (hS:∀ b,S b→S' b) (hc:∀ b o u,S b→w.cell? ⟨b,o,none⟩=some u→w'.cell? ⟨b,o,none⟩=some u) (h:RdL w S xs css):RdL w' S' xs css:=fun i x cs hx hcs=>RepS.mono hS hc (h i x cs hx hcs)
theorem RowIn.two {g cap:Nat} {cur:Array Value} {dss ess:List (List Value)} (h:RowIn F w base T g cap xs cur dss) {ys:List α} {y:α} {cs:List Value} (hy:RepS.rdS w (fun b=>F b∧b<w.heap.size∧b≠g) y cs)
  (he:ess.length=ys.length) (hys:RdL w (fun b=>F b∧b<w.heap.size∧b≠g) ys ess) (hroom:xs.length+1+ys.length≤cap) {cur2:Array Value} (hsz:cur2.size=cur.size)
  (hrow:cur2.toList.take (xs.length * Rep.size α+Rep.size α+ys.length * Rep.size α)=dss.flatten ++ (cs ++ ess.flatten)):RowIn F (w.setRow g cur2) base T g cap (xs ++ y :: ys) cur2 (dss ++ cs :: ess):=by
 have A:=h.len;refine h.write (by rw [List.length_append,List.length_cons];omega) hsz (by simp;omega) (RdL.app h.rd (RdL.cons hy hys) A) ?_;have e:(xs ++ y :: ys).length * Rep.size α=xs.length * Rep.size α+Rep.size α+ys.length * Rep.size α:=by
  rw [List.length_append,List.length_cons,Nat.add_mul,Nat.succ_mul];omega
 rw [e,hrow,List.flatten_append,List.flatten_cons]
theorem RowIn.from_ {g cap:Nat} {cur:Array Value} {css:List (List Value)} (h:RowIn F w base T g cap xs cur css) (i:Nat):∀ j u,(css.drop i).flatten[j]? = some u→w.cell? ⟨g,i * Rep.size α+j,none⟩=some u:=fun j u hu=>by
 rw [cell_of_row w g _ cur T (0,0) h.heap];rw [← (flat_take i h.css).2,List.getElem?_drop,← h.row,List.getElem?_take] at hu;split at hu
 · simpa using hu
 cases hu
end
theorem grown_seq {a b c:World} {row:Option Nat} (h:a.grownBy b row) (k:b.grownBy c row):a.grownBy c row:=by
 obtain ⟨A,B,C,D,E⟩:=h;obtain ⟨F,G,H,I,J⟩:=k;exact ⟨F.trans A,G.trans B,H.trans C,Nat.le_trans D I,fun i hi hne=>(J i (by omega) hne).trans (E i hi hne)⟩
theorem grown_wide {a b:World} {row:Option Nat} (h:a.grownBy b none):a.grownBy b row:=by
 obtain ⟨A,B,C,D,E⟩:=h;exact ⟨A,B,C,D,fun i hi _=>E i hi (by simp)⟩
theorem below_drew (w:World):Below w.heap.size w w.drew:=below_drewN_self w w.heap.size 1
theorem RowIn.drew {α:Type} [RepS α] {F:Nat→Prop} {w:World} {base:Nat} {T:TypeId} {xs:List α} {g cap:Nat} {cur:Array Value} {css:List (List Value)} (h:RowIn F w base T g cap xs cur css):RowIn F w.drew base T g cap xs cur css :=
 ⟨h.lo,h.heap,h.le,h.lim,h.size,h.len,RdL.mono (w:=w) (fun _ h=>h) (fun _ _ _ _ h=>h) h.rd,h.row⟩
theorem heap_new (w:World) (o:Obj):(w.alloc o).heap[w.heap.size]? = some o:=by
 unfold World.alloc;simp
theorem splice_size {cur:Array Value} {cs:List Value} {o:Nat} (h:o+cs.length≤cur.size):(cur.toList.take o ++ cs ++ cur.toList.drop (o+cs.length)).toArray.size=cur.size:=by
 have A:cur.toList.length=cur.size:=Array.length_toList;simp only [List.size_toArray,List.length_append,List.length_take,List.length_drop,A];omega
section
variable {P:Program} {α:Type} [RepS α] {F:Nat→Prop} {w:World} {base bytes:Nat} {T TS:TypeId} {xs:List α}
theorem flat_size_drop {g cap:Nat} {cur:Array Value} {css:List (List Value)} (h:RowIn F w base T g cap xs cur css) (i:Nat) (hi:i≤xs.length):(css.drop i).flatten.length=(xs.length - i) * Rep.size α:=by
 have A:=flat_size h.len h.rd;rw [← (flat_take i h.css).2,List.length_drop,A,Nat.sub_mul]
theorem insert_room (E:ElemT P (Rep.size α) T TS bytes) {g cap:Nat} {cur:Array Value} {css:List (List Value)} (h:RowIn F w base T g cap xs cur css) {i:Nat} (hi:i≤xs.length) (hroom:xs.length+1≤cap) {y:α} {cs:List Value} (gv:Nat) (hgv:gv≠g)
  (hc:∀ (j:Nat) u,cs[j]? = some u→w.cell? ⟨gv,j,none⟩=some u) (hr:RepS.rdS w (fun b=>F b∧b<w.heap.size∧b≠g) y cs) :
  ∃ cur1 cur2,(∀ ty dc sc dT sT,P.underlying dT=some (.slice T)→(Builtin.copy_ #[dT,sT] ty #[.slice (some ⟨g,(i+1) * Rep.size α,none⟩) (xs.length+1 - (i+1)) dc,.slice (some ⟨g,i * Rep.size α,none⟩) (xs.length+1 - i) sc]).run P w=.ok (goInt ((xs.length - i:Nat):Int)) (w.setRow g cur1))∧
   (∀ ty dc sc dT sT,P.underlying dT=some (.slice T)→(Builtin.copy_ #[dT,sT] ty #[.slice (some ⟨g,i * Rep.size α,none⟩) (xs.length+1 - i) dc,.slice (some ⟨gv,0,none⟩) 1 sc]).run P (w.setRow g cur1)=.ok (goInt 1) (w.setRow g cur2))∧
   RowIn F (w.setRow g cur2) base T g cap (xs.take i ++ y :: xs.drop i) cur2 (css.take i ++ cs :: css.drop i):=by
 obtain ⟨Q,z,J,Z,I,S,U⟩:=E.info;have R:=h.css;have G:cs.length=Rep.size α:=RepS.lenS hr;have B:=flat_size_drop h i hi;have V:=h.size;have N:(xs.length+1) * Rep.size α≤cap * Rep.size α:=Nat.mul_le_mul_right _ hroom;have O:i * Rep.size α+Rep.size α+(xs.length - i) * Rep.size α=(xs.length+1) * Rep.size α:=by
  have:xs.length+1=i+1+(xs.length - i):=by omega
  rw [this,Nat.add_mul,Nat.add_mul,Nat.one_mul]
 have M:(i+1) * Rep.size α=i * Rep.size α+Rep.size α:=Nat.succ_mul _ _;have W:cur.toList.length=cur.size:=Array.length_toList;obtain ⟨cur1,hcur1⟩:∃ c,c=(cur.toList.take ((i+1) * Rep.size α) ++ (css.drop i).flatten ++ cur.toList.drop ((i+1) * Rep.size α+(css.drop i).flatten.length)).toArray:=⟨_,rfl⟩;obtain ⟨cur2,hcur2⟩:∃ c,c=(cur1.toList.take (i * Rep.size α) ++ cs ++ cur1.toList.drop (i * Rep.size α+cs.length)).toArray:=⟨_,rfl⟩;have X:cur1.size=cur.size:=by rw [hcur1];exact splice_size (by omega)
 have Y:cur2.size=cur.size:=by rw [hcur2,splice_size (by omega),X]
 have K:=setRow_heap w g cur cur1 T (0,0) h.heap;have L:=grown_setRow w g cur1;refine ⟨cur1,cur2,fun ty dc sc dT sT hT=>?_,fun ty dc sc dT sT hT=>?_,?_⟩
 ·
  rw [hcur1]
  exact run_copy_n w dT sT ty T g ((i+1) * Rep.size α) (xs.length+1 - (i+1)) dc ⟨g,i * Rep.size α,none⟩ (xs.length+1 - i) sc (Rep.size α) (xs.length - i) cur T _ hT ⟨Q,J,I⟩ h.heap (by simp only [Nat.min_def];split <;> omega) B (fun j u hu=>by rw [add_mk];exact h.from_ i j u hu) (by omega) (fun u hu=>h.one u (by rw [← List.take_append_drop i css,List.flatten_append];exact List.mem_append_right _ hu))
 ·
  have e:=run_copy_n (w.setRow g cur1) dT sT ty T g (i * Rep.size α) (xs.length+1 - i) dc ⟨gv,0,none⟩ 1 sc (Rep.size α) 1 cur1 T cs hT ⟨Q,J,I⟩ K (by simp only [Nat.min_def];split <;> omega) (by omega) (fun j u hu=>by rw [add_mk,Nat.zero_add];exact L.cell (hc j u hu) (fun e=>hgv (Option.some.inj e))) (by omega) (RepS.one hr)
  rw [setRow_setRow,← hcur2] at e;exact e
 have hcut:=h.cut i hi;have A:(xs.take i).length=i:=by rw [List.length_take];omega
 have H:(xs.drop i).length=xs.length - i:=List.length_drop;refine hcut.two hr (by rw [List.length_drop,List.length_drop,h.len]) (RdL.drop h.rd i) (by rw [A,H];omega) Y ?_;rw [A,H];have C:cur.toList.take (i * Rep.size α)=(css.take i).flatten:=by rw [← (flat_take i R).1,← h.row,List.take_take,Nat.min_eq_left (Nat.mul_le_mul_right _ hi)]
 have D:(css.take i).flatten.length=i * Rep.size α:=by rw [← C,List.length_take];have:=Nat.mul_le_mul_right (Rep.size α) hi;omega
 have:=(two_parts (cs:=cs) C D G B (by omega)).1;rw [← this,hcur2,hcur1];simp only [List.toList_toArray,G,B,M]
theorem insert_new (E:ElemT P (Rep.size α) T TS bytes) {g cap:Nat} {cur:Array Value} {css ess:List (List Value)} (h:RowIn F w base T g cap xs cur css) {ys:List α} (hroom:xs.length+1+ys.length≤cap) {y:α} {cs:List Value} (gv gs so:Nat) (hgv:gv≠g) (hgs:gs≠g)
  (hc:∀ (j:Nat) u,cs[j]? = some u→w.cell? ⟨gv,j,none⟩=some u) (hr:RepS.rdS w (fun b=>F b∧b<w.heap.size∧b≠g) y cs)
  (he:ess.length=ys.length) (hys:RdL w (fun b=>F b∧b<w.heap.size∧b≠g) ys ess) (hec:∀ (j:Nat) u,ess.flatten[j]? = some u→w.cell? ⟨gs,so+j,none⟩=some u) :
  ∃ cur1 cur2,(∀ ty dl dc sc dT sT,P.underlying dT=some (.slice T)→1≤dl→(Builtin.copy_ #[dT,sT] ty #[.slice (some ⟨g,xs.length * Rep.size α,none⟩) dl dc,.slice (some ⟨gv,0,none⟩) 1 sc]).run P w=.ok (goInt 1) (w.setRow g cur1))∧
   (∀ ty dl dc sc dT sT,P.underlying dT=some (.slice T)→ys.length≤dl→(Builtin.copy_ #[dT,sT] ty #[.slice (some ⟨g,(xs.length+1) * Rep.size α,none⟩) dl dc,.slice (some ⟨gs,so,none⟩) ys.length sc]).run P (w.setRow g cur1).drew=.ok (goInt ys.length) (w.setRow g cur2).drew)∧
   RowIn F (w.setRow g cur2) base T g cap (xs ++ y :: ys) cur2 (css ++ cs :: ess):=by
 obtain ⟨M,z,H,W,G,O,Q⟩:=E.info;have D:cs.length=Rep.size α:=RepS.lenS hr;obtain ⟨A,I⟩:=flat_len he hys;have R:=h.size;have C:(xs.length+1+ys.length) * Rep.size α≤cap * Rep.size α:=Nat.mul_le_mul_right _ hroom;rw [Nat.add_mul,Nat.succ_mul] at C;have S:cur.toList.length=cur.size:=Array.length_toList;have L:(xs.length+1) * Rep.size α=xs.length * Rep.size α+Rep.size α:=Nat.succ_mul _ _;obtain ⟨cur1,hcur1⟩:∃ c,c=(cur.toList.take (xs.length * Rep.size α) ++ cs ++ cur.toList.drop (xs.length * Rep.size α+cs.length)).toArray:=⟨_,rfl⟩;obtain ⟨cur2,hcur2⟩:∃ c,c=(cur1.toList.take ((xs.length+1) * Rep.size α) ++ ess.flatten ++ cur1.toList.drop ((xs.length+1) * Rep.size α+ess.flatten.length)).toArray:=⟨_,rfl⟩;have U:cur1.size=cur.size:=by rw [hcur1];exact splice_size (by omega)
 have V:cur2.size=cur.size:=by rw [hcur2,splice_size (by omega),U]
 have J:=setRow_heap w g cur cur1 T (0,0) h.heap;have K:=grown_setRow w g cur1;refine ⟨cur1,cur2,fun ty dl dc sc dT sT hT hdl=>?_,fun ty dl dc sc dT sT hT hdl=>?_,?_⟩
 ·
  rw [hcur1]
  exact run_copy_n w dT sT ty T g (xs.length * Rep.size α) dl dc ⟨gv,0,none⟩ 1 sc (Rep.size α) 1 cur T cs hT ⟨M,H,G⟩ h.heap (by simp only [Nat.min_def];split <;> omega) (by omega) (fun j u hu=>by rw [add_mk,Nat.zero_add];exact hc j u hu) (by omega) (RepS.one hr)
 ·
  have e:=run_copy_n (w.setRow g cur1).drew dT sT ty T g ((xs.length+1) * Rep.size α) dl dc ⟨gs,so,none⟩ ys.length sc (Rep.size α) ys.length cur1 T ess.flatten hT ⟨M,H,G⟩ J (by simp only [Nat.min_def];split <;> omega) A (fun j u hu=>by rw [add_mk];exact K.cell (hec j u hu) (fun e=>hgs (Option.some.inj e))) (by omega) I
  have N:(w.setRow g cur1).drew.setRow g (cur1.toList.take ((xs.length+1) * Rep.size α) ++ ess.flatten ++ cur1.toList.drop ((xs.length+1) * Rep.size α+ess.flatten.length)).toArray=(w.setRow g cur2).drew:=by rw [hcur2];exact congrArg World.drew (setRow_setRow w g cur1 _)
  rw [N] at e;exact e
 refine h.two hr he hys hroom V ?_;have B:css.flatten.length=xs.length * Rep.size α:=flat_size h.len h.rd;have:=(two_parts (cs:=cs) h.row B D A (by omega)).2;rw [← this,hcur2,hcur1];simp only [List.toList_toArray,D,A,L]
theorem insert_grow (E:ElemT P (Rep.size α) T TS bytes) {g cap:Nat} {cur:Array Value} {css:List (List Value)} (h:RowIn F w base T g cap xs cur css) {i:Nat} (hi:i<xs.length) (hroom:cap<xs.length+1) (hb:base≤w.heap.size) (hbig:(xs.length+1) * bytes≤140737488355328) (hlen:xs.length≤1000000)
  (tn ty:TypeId) (kn:IntKind) (htn:P.underlying tn=some (.int kn)) (kq:IntKind) :
  ∃ G cur1 W1,(Builtin.append_ #[TS,tn] ty #[.slice (some ⟨g,0,none⟩) i cap,.int kq ((xs.length+1 - i:Nat):Int)]).run P w=.ok (.slice (some ⟨w.heap.size,0,none⟩) (xs.length+1) G) W1∧xs.length+1≤G∧Below w.heap.size w W1∧W1.heap.size=w.heap.size+1∧
   RowIn F W1 base T w.heap.size G (xs.take i) cur1 (css.take i):=by
 obtain ⟨R,z,O,S,H,I,N⟩:=E.info;have Q:=h.le;have D:(Builtin.firstCells R.size i (.slice (some ⟨g,0,none⟩) i cap)).run P w.drew=.ok (css.take i).flatten.toArray w.drew:=by
  rw [H];have B:(css.take i).flatten.length=i * Rep.size α:=by rw [← (flat_take i h.css).1,List.length_take,flat_size h.len h.rd,Nat.min_eq_left (Nat.mul_le_mul_right _ (by omega))]
  exact run_firstCells_some w.drew (Rep.size α) i ⟨g,0,none⟩ i cap _ B (fun j u hu=>by
   rw [add_mk,Nat.zero_add];rw [← (flat_take i h.css).1,List.getElem?_take] at hu;split at hu
   ·
    have:=h.from_ 0 j u (by simpa using hu)
    rw [Nat.zero_mul,Nat.zero_add] at this;exact this
   · cases hu)
 have C:i+(xs.length+1 - i)=xs.length+1:=by omega
 have A:=Lib.run_append_grow_zeros w TS tn ty T R z kq kn E.sl htn O S (some ⟨g,0,none⟩) i cap _ D (xs.length+1 - i) (by omega) (by rw [H];exact RepS.pos) (by omega) (by omega) (by
  rw [I];have:(xs.length+1 - i) * bytes≤(xs.length+1) * bytes:=Nat.mul_le_mul_right _ (by omega);omega) (by rw [I,C];exact growslice_fits hroom hbig)
 rw [C] at A;obtain ⟨G,hG⟩:∃ G,G=grownCap w (xs.length+1) cap T:=⟨_,rfl⟩;have L:xs.length+1≤G:=by rw [hG];exact grownCap_ge w _ _ _
 have K:G≤maxLen:=by rw [hG];exact grownCap_le_maxLen w _ _ _ (by unfold maxLen;omega)
 rw [← hG] at A;refine ⟨G,(css.take i).flatten.toArray ++ Builtin.zeroCells z.cells (xs.length+1 - i) ++ Builtin.zeroCells z.cells (G - (xs.length+1)),_,A,L,?_,by simp,?_⟩
 · exact (show Below w.heap.size w w.drew from below_drewN_self w w.heap.size 1).alloc (Nat.le_refl _) _
 have B:(css.take i).flatten.length=i * Rep.size α:=by rw [← (flat_take i h.css).1,List.length_take,flat_size h.len h.rd,Nat.min_eq_left (Nat.mul_le_mul_right _ (by omega))]
 have J:(xs.take i).length=i:=by rw [List.length_take];omega
 refine ⟨hb,heap_new w.drew _,by omega,K,?_,by rw [List.length_take,List.length_take,h.len],RdL.mono (fun b hb=>⟨hb.1,by simp;omega,by omega⟩) (fun b o u hb hu=>?_) (RdL.take h.rd i),?_⟩
 ·
  simp [Builtin.zeroCells,N,B]
  rw [← Nat.add_mul,← Nat.add_mul];congr 1;omega
 ·
  have M:=hb.2.1
  rw [World.cell?_alloc_past (w:=w.drew) _ b o M];exact hu
 rw [J];simp [List.take_append_of_le_length,B]
end
theorem take_succ_some {α:Type} {x:α} {l:List α} {k:Nat} (h:l[k]? = some x):l.take (k+1)=l.take k ++ [x]:=by rw [List.take_add_one,h];rfl
theorem drop_succ_of {α:Type} {l m:List α} {k:Nat} (h:l.drop k=m.drop k):l.drop (k+1)=m.drop (k+1):=by
 have:=congrArg (List.drop 1) h;rwa [List.drop_drop,List.drop_drop] at this
section
variable {α:Type} [RepS α] {F:Nat→Prop} {w W W':World} {base:Nat} {T:TypeId} {g cap:Nat} {xs:List α} {cur:Array Value} {css:List (List Value)} {p:α→Bool} {i j:Nat} {x:α}
theorem RowIn.below (h:RowIn F w base T g cap xs cur css) (hb:Below w.heap.size w W):RowIn F W base T g cap xs cur css :=
 ⟨h.lo,(hb.block g h.lt).trans h.heap,h.le,h.lim,h.size,h.len,RdL.mono (w:=w) (fun b hb'=>⟨hb'.1,by have:=hb.size;omega,hb'.2.2⟩) (fun b o u hb' hu=>(hb.cell (p:=⟨b,o,none⟩) hb'.2.1).trans hu) h.rd,h.row⟩
def DelSt (F:Nat→Prop) (base:Nat) (T:TypeId) (g cap:Nat) (w:World) (xs:List α) (p:α→Bool) (i j:Nat) (W:World):Prop :=
 ∃ (zs:List α) (cur:Array Value) (css:List (List Value)),RowIn F W base T g cap zs cur css∧zs.length=xs.length∧zs.take i=(xs.take j).filter (fun x=>!p x)∧zs.drop j=xs.drop j∧w.grownBy W (some g)∧i<j∧j≤xs.length
theorem DelSt.start (h:RowIn F w base T g cap xs cur css) (hg:W.grownBy w (some g)) (hx:xs[i]? = some x) (hp:p x=true) (hb:∀ y ∈ xs.take i,p y=false):DelSt F base T g cap W xs p i (i+1) w:=by
 have B:=(List.getElem?_eq_some_iff.1 hx).1;refine ⟨xs,cur,css,h,rfl,?_,rfl,hg,by omega,by omega⟩;rw [take_succ_some hx,List.filter_append];have A:(xs.take i).filter (fun x=>!p x)=xs.take i:=List.filter_eq_self.2 fun y hy=>by rw [hb y hy];rfl
 rw [A];simp [hp]
theorem DelSt.skip (h:DelSt F base T g cap w xs p i j W) (hx:xs[j]? = some x) (hp:p x=true) (hb:Below W.heap.size W W'):DelSt F base T g cap w xs p i (j+1) W':=by
 obtain ⟨I,B,A,C,D,E,G,H,J,K⟩:=h;have L:=(List.getElem?_eq_some_iff.1 hx).1;refine ⟨I,B,A,C.below hb,D,?_,drop_succ_of G,grown_seq H (grown_wide (grown_none hb)),by omega,by omega⟩;rw [take_succ_some hx,List.filter_append,E];simp [hp]
theorem DelSt.at_ (h:DelSt F base T g cap w xs p i j W) (hx:xs[j]? = some x):(∃ cs,RepS.rdS W (fun b=>F b∧b<W.heap.size∧b≠g) x cs∧∀ k u,cs[k]? = some u→W.cell? ⟨g,j * Rep.size α+k,none⟩=some u)∧
  (∀ k,k<Rep.size α→∃ u,W.cell? ⟨g,i * Rep.size α+k,none⟩=some u)∧(∀ k,W.frozen? ⟨g,k,none⟩=false)∧g<W.heap.size:=by
 obtain ⟨C,E,D,A,M,N,G,O,P,Q⟩:=h;have R:=(List.getElem?_eq_some_iff.1 hx).1;have B:C[j]? = some x:=by
  have:=congrArg (fun l=>l[0]?) G;simp only [List.getElem?_drop,Nat.add_zero] at this;rw [this,hx]
 obtain ⟨cs,-,H,I⟩:=A.at_ B;obtain ⟨L,-,J,K⟩:=A.at_ (List.getElem?_eq_getElem (show i<C.length by omega));exact ⟨⟨cs,H,I⟩,fun k hk=>⟨_,K k _ (List.getElem?_eq_getElem (by rw [RepS.lenS J];exact hk))⟩,fun k=>A.frozen k,A.lt⟩
theorem DelSt.put (h:DelSt F base T g cap w xs p i j W) (hx:xs[j]? = some x) (hp:p x=false) (hb:Below W.heap.size W W') {cs:List Value} (hr:RepS.rdS W (fun b=>F b∧b<W.heap.size∧b≠g) x cs):DelSt F base T g cap w xs p (i+1) (j+1) (W'.setCells g (i * Rep.size α) cs):=by
 obtain ⟨I,cur,B,h1,C,D,E,G,J,K⟩:=h;have L:=(List.getElem?_eq_some_iff.1 hx).1;have h1':=h1.below hb;obtain ⟨cur',e,A⟩:=h1'.set_ (i:=i) (by omega) (y:=x) (cs:=cs) (RepS.mono (fun b hb'=>⟨hb'.1,by have:=hb.size;omega,hb'.2.2⟩) (fun b o u hb' hu=>(hb.cell (p:=⟨b,o,none⟩) hb'.2.1).trans hu) hr);rw [e];have H:i<I.length:=by omega
 refine ⟨_,cur',_,A,by rw [List.length_set];exact C,?_,?_,grown_seq (grown_seq G (grown_wide (grown_none hb))) (grown_setRow W' g cur'),by omega,by omega⟩
 ·
  rw [take_succ_some (x:=x) (by rw [List.getElem?_set,if_pos rfl,if_pos H]),List.take_set_of_le (Nat.le_refl _),D,take_succ_some hx,List.filter_append]
  simp [hp]
 rw [List.drop_set_of_lt (by omega)];exact drop_succ_of E
theorem DelSt.done {P:Program} {bytes:Nat} {TS:TypeId} (E:ElemT P (Rep.size α) T TS bytes) (h:DelSt F base T g cap w xs p i xs.length W) (ty:TypeId) (c:Nat) (hz:∀ (z:Value),(∃ ti,P.info? T=some ti∧ti.zero=some z)→∀ u ∈ z.cells,u.oneCell'=true) :
  ∃ W2,(Builtin.clear_ #[TS] ty #[.slice (some ⟨g,i * Rep.size α,none⟩) (xs.length - i) c]).run P W=.ok (.tuple #[]) W2∧w.grownBy W2 (some g)∧OwnsS F W2 base T (.slice (some ⟨g,0,none⟩) i cap) (xs.filter fun x=>!p x)∧i≤xs.length:=by
 obtain ⟨ti,z,H,J,R,S,C⟩:=E.info;obtain ⟨V,cur,N,D,X,K,Y,O,Z,h7⟩:=h;rw [List.take_length] at K;have U:=D.size;have Q:=D.le;have A:(i+(xs.length - i)) * Rep.size α≤cap * Rep.size α:=Nat.mul_le_mul_right _ (by omega);rw [Nat.add_mul] at A;obtain ⟨vs,I,B⟩:=run_clear_n (P:=P) W TS T ty z E.sl (fun w=>by simp [zeroValue,typeInfo,H,J]) g (i * Rep.size α) (xs.length - i) c (by omega) cur T D.heap (hz z ⟨ti,H,J⟩) (by rw [C];omega);have hcut:=D.cut i (by omega);have L:(V.take i).length=i:=by rw [List.length_take];omega
 obtain ⟨cur',e,G⟩:=hcut.tail (o:=i * Rep.size α) (vs:=vs) (by rw [L];exact Nat.le_refl _) (by rw [I,C];exact A);rw [setCells_row vs _ cur W D.heap (by rw [I,C];omega)] at e;rw [e] at B;refine ⟨_,B,grown_seq O (grown_setRow W g cur'),?_,by omega⟩;have M:=G.owns;rw [L,K] at M;exact M
end

inductive Cont where
 | mk (kind:Int) (id label:ByteArray) (slot total least:Int) (inner:List Cont)

namespace Cont
def kind:Cont→Int | .mk k _ _ _ _ _ _=>k
def id:Cont→ByteArray | .mk _ i _ _ _ _ _=>i
def label:Cont→ByteArray | .mk _ _ l _ _ _ _=>l
def slot:Cont→Int | .mk _ _ _ s _ _ _=>s
def total:Cont→Int | .mk _ _ _ _ t _ _=>t
def least:Cont→Int | .mk _ _ _ _ _ e _=>e
def inner:Cont→List Cont | .mk _ _ _ _ _ _ xs=>xs
end Cont
def okInt (n:Int):Prop:=-9223372036854775808≤n∧n≤9223372036854775807
def contCells (k:Int) (i l:ByteArray) (s t e:Int) (A:Option Addr) (n c:Nat):List Value :=
 [.int .i64 k,.string i,.string l,.int .i64 s,.int .i64 t,.int .i64 e,.slice A n c]

mutual
def CRdS (w:World) (S:Nat→Prop):Cont→List Value→Prop
 | .mk k i l s t e xs,cs=>∃ A c,cs=contCells k i l s t e A xs.length c∧(okInt k∧i.size≤maxLen∧l.size≤maxLen∧okInt s∧okInt t∧okInt e)∧
   xs.length≤c∧c≤maxLen∧(0<xs.length→∃ b o,A=some ⟨b,o,none⟩∧S b∧CsAtS w S b xs o)
def CsAtS (w:World) (S:Nat→Prop) (b:Nat):List Cont→Nat→Prop
 | [],_=>True
 | x :: xs,o=>(∃ cs,CRdS w S x cs∧∀ j u,cs[j]? = some u→w.cell? ⟨b,o+j,none⟩=some u)∧CsAtS w S b xs (o+7)
end
def CRd (w:World) (B:Nat) (a:Cont) (cs:List Value):Prop:=CRdS w (fun b=>b<B) a cs
theorem CRdS_len {w:World} {S:Nat→Prop} {a:Cont} {cs:List Value} (h:CRdS w S a cs):cs.length=7:=by
 cases a
 rw [CRdS] at h;obtain ⟨A,c,rfl,_⟩:=h;rfl
theorem CRd_len {w:World} {B:Nat} {a:Cont} {cs:List Value} (h:CRd w B a cs):cs.length=7:=CRdS_len h
mutual
theorem CRdS_mono {w w':World} {S S':Nat→Prop} (hS:∀ b,S b→S' b) (hc:∀ b o u,S b→w.cell? ⟨b,o,none⟩=some u→w'.cell? ⟨b,o,none⟩=some u):∀ (a:Cont) (cs:List Value),CRdS w S a cs→CRdS w' S' a cs
 | .mk k i l s t e xs,cs,h=>by
  rw [CRdS] at h ⊢;obtain ⟨A,c,rfl,h1,h2,h3,h4⟩:=h;exact ⟨A,c,rfl,h1,h2,h3,fun hn=>by
   obtain ⟨b,o,e,hb,h5⟩:=h4 hn;exact ⟨b,o,e,hS b hb,CsAtS_mono hS hc b hb xs o h5⟩⟩
theorem CsAtS_mono {w w':World} {S S':Nat→Prop} (hS:∀ b,S b→S' b) (hc:∀ b o u,S b→w.cell? ⟨b,o,none⟩=some u→w'.cell? ⟨b,o,none⟩=some u) (b:Nat) (hb:S b):∀ (xs:List Cont) (o:Nat),CsAtS w S b xs o→CsAtS w' S' b xs o
 | [],o,_=>by rw [CsAtS];trivial
 | x :: xs,o,h=>by
  rw [CsAtS] at h ⊢;obtain ⟨⟨cs,h1,h2⟩,h3⟩:=h;exact ⟨⟨cs,CRdS_mono hS hc x cs h1,fun j u hu=>hc _ _ _ hb (h2 j u hu)⟩,CsAtS_mono hS hc b hb xs (o+7) h3⟩
end
theorem CRd_keep {w w':World} {B:Nat} (hb:Below B w w') (a:Cont) (cs:List Value) (h:CRd w B a cs):CRd w' B a cs :=
 CRdS_mono (fun _ h=>h) (fun b o u hlt hu=>(hb.cell (p:=⟨b,o,none⟩) (by exact hlt)).trans hu) a cs h
theorem CRd_more {w:World} {B B':Nat} (hB:B≤B') (a:Cont) (cs:List Value) (h:CRd w B a cs):CRd w B' a cs :=
 CRdS_mono (fun b (h:b<B)=>(by omega:b<B')) (fun _ _ _ _ hu=>hu) a cs h
instance:Rep Cont where
 size:=7
 rd:=CRd
 len:=CRd_len
 keep:=fun hb h=>CRd_keep hb _ _ h
 more:=fun hB h=>CRd_more hB _ _ h

theorem IndexByte_at (t:ByteArray) (T:List UInt8) (hT:t.data.toList=T) (x:UInt8) (w:World):Calls Tryz.prog 141 #[.string t,.int .u8 x.toNat] w fun e w'=>e=.returned (.int .i64 (Lib.indexByte T x))∧w'=w:=by
 refine (Tryz.strings_IndexByte t x.toNat w).mono ?_;rintro e w' ⟨rfl,rfl⟩;rw [hT,show ((x.toNat:Int).toNat).toUInt8=x by simp];exact ⟨rfl,rfl⟩

def numP (t:ByteArray):Option Int:=match Lib.atoiAll t.data.toList with
 | .ok n=>if Lib.itoa n=t.data.toList then some n else none
 | _=>none
end Go.Cold
