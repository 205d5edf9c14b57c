/-
  A law for ranges over functions whose iterators write blocks of their own between two rounds,and whose rounds never leave the loop. No program is named here.
-/
import Derived.Test.YtjgllhlilbchpaaGreatDoorQD
import Derived.RangeFuncNested
import Derived.RangeFuncBound
import Derived.RangeFuncCalls
import Derived.RangeFuncLeaves
import Derived.Test.YtjgllhlilbchpaaGreatDoorQTK
import Derived.Test.YtjgllhlilbchpaaGreatDoorQH
import Derived.Shelf.RegionOpen
import Derived.OwnWalkIn
import Derived.TacticsInMore
import Derived.LoopNIn
import Derived.LoopIn
import Derived.Lib.BufferMore
set_option linter.unusedSimpArgs false
set_option linter.unusedVariables false
namespace Go.Cold
open Go Go.RowKit
def KpZ (Z:Nat→Prop) (W W':World):Prop:=W.heap.size≤W'.heap.size∧∀ k,k<W.heap.size→Z k→W'.heap[k]? = W.heap[k]?
theorem KpZ.refl (Z:Nat→Prop) (W:World):KpZ Z W W:=⟨Nat.le_refl _,fun _ _ _=>rfl⟩
theorem KpZ.trans {Z:Nat→Prop} {A B C:World} (h:KpZ Z A B) (k:KpZ Z B C):KpZ Z A C:=⟨Nat.le_trans h.1 k.1,fun i hi hz=>(k.2 i (Nat.lt_of_lt_of_le hi h.1) hz).trans (h.2 i hi hz)⟩
theorem KpZ.below {Z:Nat→Prop} {W W':World} (h:Below W.heap.size W W'):KpZ Z W W':=⟨h.size,fun k hk _=>h.block k hk⟩
theorem KpZ.grown {Z:Nat→Prop} {W W':World} {b:Nat} (h:W.grownBy W' (some b)) (hb:¬ Z b):KpZ Z W W':=⟨h.size,fun k hk hz=>h.block k hk (fun e=>hb (by rw [← Option.some.inj e];exact hz))⟩
def Abid {α:Type} (own:Nat→Prop) (J:List α→Nat→World→Prop):Prop:=∀ pre N X Y,J pre N X→(Below X.heap.size X Y∨∃ k,own k∧X.grownBy Y (some k))→J pre N Y
def SeqT {α:Type} (F:Fence) (n:Nat) (P:Program) (gf:Nat) (lb:Array Value) (encs:α→Array Value) (S:List α→Prop) (Nx:List α→α→World→Prop) (own Z:Nat→Prop) (w:World):Prop :=
 ∀ (l:Nat) (JJ:List α→Nat→World→Prop) (W:World),Below w.heap.size w W→W.heap.size=w.heap.size+2→Abid own JJ→
  (∀ pre x N W1,JJ pre N W1→N≤W1.heap.size→Nx pre x W1→YieldAt F (n - 1) P l (encs x) W1 fun e W'=>e=.returned (.bool true)∧JJ (pre ++ [x]) W'.heap.size W'∧KpZ (fun k=>Z k∨N≤k) W1 W')→
  JJ [] W.heap.size W→CallsIn F n P gf (#[.func (.yield l) #[] #[]] ++ lb) W fun e W'=>(∃ v,e=.returned v)∧∃ xs N,S xs∧JJ xs N W'
def roundP {α:Type} (J:List α→Nat→World→Prop) (Z:Nat→Prop) (l D:Nat) (xs:List α) (N:Nat) (W:World):Exit→Act→World→Prop
 | .normal,_,W'=>J xs W'.heap.size W'∧KpZ (fun k=>Z k∨N≤k) W W'∧W'.heap[l]? = W.heap[l]?∧W'.heap[D]? = W.heap[D]?
 | _,_,_=>False
variable {F:Fence} {n:Nat} {P:Program}
theorem wpIn_range {α:Type} {g:Operand} {ps:Array Tmp} {assign body:Code} {Q:Exit→Act→World→Prop} {a:Act} {w:World}
  (hro:F.round=none) (h1:1≤n) {gf:Nat} {lb:Array Value} (hg:a.eval g=.func (.func gf) #[] lb) (hFg:F.fn gf) (eg:∀ args w,(callFunc gf args).run P w=.ok (.enter gf args) w)
  {encs:α→Array Value} {S:List α→Prop} {Nx:List α→α→World→Prop} {own Z:Nat→Prop} (hseq:SeqT F (n - 1) P gf lb encs S Nx own Z w)
  (hps:∀ x,(encs x).size=ps.size) (hown:∀ k,own k→k≠w.heap.size∧k≠w.heap.size+1) (hZ:¬ Z (w.heap.size+1))
  (J:List α→Nat→World→Prop) (hJ:Abid own J) (hJl:∀ pre N X o,J pre N X→J pre N (X.putObj (w.heap.size+1) o))
  (hJ0:∀ W,Below w.heap.size w W→W.heap.size=w.heap.size+2→J [] (w.heap.size+2) W)
  (hNx:∀ pre x X Y,Nx pre x X→(∀ k,k<w.heap.size→Y.heap[k]? = X.heap[k]?)→Nx pre x Y)
  (cs:α→Array Value) (T:TypeId) (a₁:α→Nat→Act)
  (hassign:∀ (l:Nat) (x:α) (W:World) (K:Act→World→Prop),K (a₁ x W.heap.size) (W.alloc (.cells (cs x) T))→
   assign.wpIn (F.inRound l) (n - 1 - 1) P (Exit.then K (fun _ _ _=>False)) { tmps:=(ps.zip (encs x)).foldl (fun t (p,v)=>t.setIfInBounds p v) a.tmps,defers:=[] } W)
  (hbody:∀ (pre:List α) (x:α) (N:Nat) (W:World) (g7:Nat),J pre N W→w.heap.size+2≤N→N≤g7→Nx pre x W→BoxL W g7 (cs x).toList→w.heap.size+2≤W.heap.size→
   body.wpIn (F.inRound (w.heap.size+1)) (n - 1 - 1) P (roundP J Z (w.heap.size+1) w.heap.size (pre ++ [x]) N W) (a₁ x g7) W)
  (hdone:∀ (xs:List α) (N:Nat) (W:World),S xs→J xs N W→W.heap[w.heap.size]? = some (.deferred (some []))→Q .normal { a with defers:={ target:=.collected w.heap.size,args:=#[] } :: a.defers } W) :
  (Code.rangeFunc g ps assign body).wpIn F n P Q a w:=by
 refine wpIn_rangeFunc ?_;intro fn hfn;rw [hro];obtain ⟨rec,hrec⟩:∃ rec:LoopState→Option Code→Loop,rec=fun st pe=>{ state:=st,pending:=pe,fn,tmps:=a.tmps,params:=ps,assign,body,defers:=w.heap.size }:=⟨_,rfl⟩
 obtain ⟨W1,hW1⟩:∃ W1,(w.alloc (.deferred (some []))).alloc (.loop (rec .ready none))=W1:=⟨_,rfl⟩;have hL1:W1.heap[w.heap.size+1]? = some (.loop (rec .ready none)):=by
  rw [← hW1];have:=World.alloc_heap_new (w.alloc (.deferred (some []))) (.loop (rec .ready none));rwa [World.size_alloc] at this
 have hK1:W1.heap[w.heap.size]? = some (.deferred (some [])):=by
  rw [← hW1];exact (Below.heap_alloc _ _ _ (by simp)).trans (World.alloc_heap_new w _)
 have hb1:Below w.heap.size w W1:=by
  rw [← hW1];exact ((Below.refl _ w).alloc (Nat.le_refl _) _).alloc (by simp) _
 have hs1:W1.heap.size=w.heap.size+2:=by rw [← hW1];simp
 refine ⟨w.heap.size+1,[{ target:=.collected w.heap.size,args:=#[] }],W1,{ target:=.fn (.func gf) lb,args:=#[.func (.yield (w.heap.size+1)) #[] #[]] },W1,gf,
  #[.func (.yield (w.heap.size+1)) #[] #[]] ++ lb,W1,?_,?_,?_,?_,fun _=>h1,?_⟩
 · rw [← hW1,hrec];exact run_enterLoop_outer _ _ _ _ _
 ·
  simp only [resolve,hg]
  simp [go_sem]
 · intro f' hf';simp [Target.leads] at hf';subst hf';exact hFg
 · simp [invoke,go_sem,eg]
 ·
  refine (hseq (w.heap.size+1)
   (fun pre N W=>(J pre N W∧w.heap.size+2≤N)∧W.heap[w.heap.size+1]? = some (.loop (rec .ready none))∧W.heap[w.heap.size]? = some (.deferred (some [])))
   W1 hb1 hs1
   (fun pre N X Y hs hst=>⟨⟨hJ pre N X Y hs.1.1 hst,hs.1.2⟩,by
    rcases hst with hst | ⟨k,hk,hst⟩
    · exact (hst.block _ (Array.getElem?_eq_some_iff.1 hs.2.1).1).trans hs.2.1
    · exact (hst.block _ (Array.getElem?_eq_some_iff.1 hs.2.1).1 (fun e=>(hown k hk).2 (Option.some.inj e).symm)).trans hs.2.1,by
    rcases hst with hst | ⟨k,hk,hst⟩
    · exact (hst.block _ (Array.getElem?_eq_some_iff.1 hs.2.2).1).trans hs.2.2
    · exact (hst.block _ (Array.getElem?_eq_some_iff.1 hs.2.2).1 (fun e=>(hown k hk).1 (Option.some.inj e).symm)).trans hs.2.2⟩)
   ?_ ⟨⟨by rw [hs1];exact hJ0 W1 hb1 hs1,by omega⟩,hL1,hK1⟩).mono ?_
  ·
   rintro pre x N W ⟨⟨hi,hN⟩,hl,hk⟩ hNW hnx
   have hlt:w.heap.size+1<W.heap.size:=(Array.getElem?_eq_some_iff.1 hl).1;have hy:=run_yield (P:=P) (args:=encs x) hl (by rw [hrec];exact hps x);rw [hrec] at hy;refine ⟨fn,_,assign,body,hy,roundIn_of_wpIn hfn (hassign _ x W _ ?_)⟩
   -- the box
   obtain ⟨Wb,hWb⟩:∃ z,W.alloc (.cells (cs x) T)=z:=⟨_,rfl⟩;have hbb:Below W.heap.size W Wb:=by rw [← hWb];exact (Below.refl _ _).alloc (Nat.le_refl _) _
   have hxb:BoxL Wb W.heap.size (cs x).toList:=box_mk hWb;have hlb:Wb.heap[w.heap.size+1]? = some (.loop (rec .ready none)):=(hbb.block _ hlt).trans hl;have hkb:Wb.heap[w.heap.size]? = some (.deferred (some [])):=(hbb.block _ (by omega)).trans hk;have hltb:w.heap.size+1<Wb.heap.size:=by have:=hbb.size;omega
   rw [hWb];refine ⟨_,run_beginRound hlb (by rw [hrec]),?_⟩;obtain ⟨Wc,hWc⟩:∃ z,Wb.putObj (w.heap.size+1) (.loop { rec .ready none with state:=.busy })=z:=⟨_,rfl⟩;rw [hWc];have hgc:Wb.grownBy Wc (some (w.heap.size+1)):=by rw [← hWc];exact grownBy_putObj' _ _ _
   have hl2:Wc.heap[w.heap.size+1]? = some (.loop { rec .ready none with state:=.busy }):=by rw [← hWc];exact World.putObj_heap_same hltb
   have hk2:Wc.heap[w.heap.size]? = some (.deferred (some [])):=by rw [← hWc];exact (World.putObj_heap_other (by omega)).trans hkb
   have hjc:J pre N Wc:=by rw [← hWc];exact hJl _ _ _ _ (hJ pre N W Wb hi (.inl hbb))
   have hold:∀ k,k<w.heap.size→Wc.heap[k]? = W.heap[k]?:=fun k hk=>(hgc.block k (by omega) (fun e=>by have:=Option.some.inj e;omega)).trans (hbb.block k (by omega))
   have hZN:¬ (Z (w.heap.size+1)∨N≤w.heap.size+1):=fun h=>h.elim hZ (fun h=>by omega)
   have hkp:KpZ (fun k=>Z k∨N≤k) W Wc:=(KpZ.below hbb).trans (KpZ.grown hgc hZN);refine wpIn_mono (hbody pre x N Wc W.heap.size hjc hN hNW (hNx _ _ _ _ hnx hold) (hxb.kept hgc (fun e=>by have:=Option.some.inj e;omega)) (by have:=hbb.size;have:=hgc.size;omega)) ?_;rintro e a3 W3 hp;cases e with
   | normal =>
    obtain ⟨hj3,hk3,hl3,hd3⟩:=hp;rw [hl2] at hl3;rw [hk2] at hd3;have hr:=run_endRound (P:=P) none hl3;have hlt3:w.heap.size+1<W3.heap.size:=(Array.getElem?_eq_some_iff.1 hl3).1;refine ⟨_,_,hr,by simp,⟨⟨by rw [World.putObj_size];exact hJl _ _ _ _ hj3,by rw [World.putObj_size];omega⟩,?_,(World.putObj_heap_other (by omega)).trans hd3⟩,hkp.trans (hk3.trans (KpZ.grown (grownBy_putObj' _ _ _) hZN))⟩;rw [World.putObj_heap_same hlt3,hrec];simp
   | ret=>exact hp.elim
   | exit id=>exact hp.elim
   | goto t=>exact hp.elim
   | panic ch=>exact hp.elim
   | outgrown=>exact hp.elim
  ·
   rintro e W2 ⟨⟨v,rfl⟩,xs,N,hS,hi,hl,hk⟩
   exact ⟨none,_,by have:=run_endLoop (P:=P) hl (by rw [hrec];simp);rw [hrec] at this;exact this,hdone xs N _ hS (hJl _ _ _ _ hi.1) ((World.putObj_heap_other (by omega)).trans hk)⟩
theorem fold_one (p:Nat) (v:Value) (t:Array Value):((#[p]:Array Tmp).zip #[v]).foldl (fun t (p,v)=>t.setIfInBounds p v) t=t.setIfInBounds p v:=by
 simp
theorem wpIn_rangeB {α:Type} (p0 p7:Nat) {g:Operand} {assign body:Code} {Q:Exit→Act→World→Prop} {a:Act} {w:World}
  (hro:F.round=none) (h1:1≤n) {gf:Nat} {lb:Array Value} (hg:a.eval g=.func (.func gf) #[] lb) (hFg:F.fn gf) (eg:∀ args w,(callFunc gf args).run P w=.ok (.enter gf args) w)
  {enc:α→Value} {S:List α→Prop} {Nx:List α→α→World→Prop} {own Z:Nat→Prop} (hseq:SeqT F (n - 1) P gf lb (fun x=>#[enc x]) S Nx own Z w)
  (hown:∀ k,own k→k≠w.heap.size∧k≠w.heap.size+1) (hZ:¬ Z (w.heap.size+1))
  (J:List α→Nat→World→Prop) (hJ:Abid own J) (hJl:∀ pre N X o,J pre N X→J pre N (X.putObj (w.heap.size+1) o))
  (hJ0:∀ W,Below w.heap.size w W→W.heap.size=w.heap.size+2→J [] (w.heap.size+2) W)
  (hNx:∀ pre x X Y,Nx pre x X→(∀ k,k<w.heap.size→Y.heap[k]? = X.heap[k]?)→Nx pre x Y)
  (cs:α→Array Value) (T:TypeId)
  (hassign:∀ (l:Nat) (x:α) (W:World) (K:Act→World→Prop),K { tmps:=(a.tmps.setIfInBounds p0 (enc x)).setIfInBounds p7 (.pointer (some ⟨W.heap.size,0,none⟩)),defers:=[] } (W.alloc (.cells (cs x) T))→
   assign.wpIn (F.inRound l) (n - 1 - 1) P (Exit.then K (fun _ _ _=>False)) { tmps:=a.tmps.setIfInBounds p0 (enc x),defers:=[] } W)
  (hbody:∀ (pre:List α) (x:α) (N:Nat) (W:World) (g7:Nat),J pre N W→w.heap.size+2≤N→N≤g7→Nx pre x W→BoxL W g7 (cs x).toList→w.heap.size+2≤W.heap.size→
   body.wpIn (F.inRound (w.heap.size+1)) (n - 1 - 1) P (roundP J Z (w.heap.size+1) w.heap.size (pre ++ [x]) N W) { tmps:=(a.tmps.setIfInBounds p0 (enc x)).setIfInBounds p7 (.pointer (some ⟨g7,0,none⟩)),defers:=[] } W)
  (hdone:∀ (xs:List α) (N:Nat) (W:World),S xs→J xs N W→W.heap[w.heap.size]? = some (.deferred (some []))→Q .normal { a with defers:={ target:=.collected w.heap.size,args:=#[] } :: a.defers } W) :
  (Code.rangeFunc g #[p0] assign body).wpIn F n P Q a w :=
 wpIn_range hro h1 hg hFg eg hseq (fun x=>rfl) hown hZ J hJ hJl hJ0 hNx cs T (fun x g7=>{ tmps:=(a.tmps.setIfInBounds p0 (enc x)).setIfInBounds p7 (.pointer (some ⟨g7,0,none⟩)),defers:=[] })
  (fun l x W K hK=>by rw [fold_one];exact hassign l x W K hK) hbody hdone
end Go.Cold
namespace Go.Cold
open Go Go.RowKit
def UpSt (P:Program) (tI:TypeId) (gv gi bp bo:Nat) (A:Option Addr) (c N B:Nat) (L:List Dev) (m:Int) (W:World):Prop :=
 BoxL W gv [.slice A L.length c,.map (some bp),.map (some bo)]∧BoxL W gi [.int .i64 m]∧MapV P tI tI W bp N (plM L)∧Sl W B A c L∧B≤W.heap.size
def upZ (gv gi bp B:Nat) (k:Nat):Prop:=k<B∨k=gv∨k=gi∨k=bp
theorem BoxL.kpz {Z:Nat→Prop} {W W':World} {g:Nat} {cs:List Value} (h:BoxL W g cs) (hk:KpZ Z W W') (hz:Z g):BoxL W' g cs:=by
 obtain ⟨h1,hf,hlt⟩:=h;have hh:=hk.2 g hlt hz;exact ⟨fun j u hu=>(cell_heap hh j).trans (h1 j u hu),fun j=>(frozen_heap hh j).trans (hf j),Nat.lt_of_lt_of_le hlt hk.1⟩
theorem Sl.kpz {α:Type} [RepS α] {Z:Nat→Prop} {W W':World} {B c:Nat} {A:Option Addr} {xs:List α} (h:Sl W B A c xs) (hk:KpZ Z W W') (hB:B≤W.heap.size) (hz:∀ k,k<B→Z k):Sl W' B A c xs :=
 SlS_iff.2 ((SlS_iff.1 h).mono (fun _ h=>h) (fun b o u hb hu=>(cell_heap (hk.2 b (by omega) (hz b hb)) o).trans hu))
theorem MapV.kpz {α:Type} [El α] {P:Program} {k e:TypeId} {W W':World} {b n:Nat} {f:Int→Option α} {Z:Nat→Prop} (h:MapV P k e W b n f) (hk:KpZ Z W W') (hz:Z b):MapV P k e W' b n f:=by
 have hlt:=h.lt;obtain ⟨D,⟨es,clock,h1,h2⟩,h3⟩:=h;exact ⟨D,⟨es,clock,(hk.2 b hlt hz).trans h1,h2⟩,h3⟩
section
variable {P:Program} {tI:TypeId} {gv gi bp bo c N B:Nat} {A:Option Addr} {L:List Dev} {m m':Int} {W W':World}
theorem UpSt.below (h:UpSt P tI gv gi bp bo A c N B L m W) (hb:Below W.heap.size W W'):UpSt P tI gv gi bp bo A c N B L m W':=by
 obtain ⟨h1,h2,h3,h4,h5⟩:=h;exact ⟨h1.kept (grown_none hb) (fun e=>by cases e),h2.kept (grown_none hb) (fun e=>by cases e),h3.next hb,h4.keep (hb.mono h5),Nat.le_trans h5 hb.size⟩
theorem UpSt.kpz {Z:Nat→Prop} (h:UpSt P tI gv gi bp bo A c N B L m W) (hk:KpZ Z W W') (hz:∀ k,upZ gv gi bp B k→Z k):UpSt P tI gv gi bp bo A c N B L m W':=by
 obtain ⟨h1,h2,h3,h4,h5⟩:=h;exact ⟨h1.kpz hk (hz _ (.inr (.inl rfl))),h2.kpz hk (hz _ (.inr (.inr (.inl rfl)))),h3.kpz hk (hz _ (.inr (.inr (.inr rfl)))),h4.kpz hk h5 (fun k hkb=>hz _ (.inl hkb)),Nat.le_trans h5 hk.1⟩
theorem UpSt.put (h:UpSt P tI gv gi bp bo A c N B L m W) (h1:gi≠gv) (h2:gi≠bp) (h3:B≤gi):UpSt P tI gv gi bp bo A c N B L m' (W.setCell ⟨gi,0,none⟩ (.int .i64 m')):=by
 obtain ⟨a1,a2,a3,a4,a5⟩:=h;exact ⟨a1.far h1 _,a2.set_ (j:=0) (by simp) _,a3.kept (grown_one _ gi 0 _) (fun e=>h2 (Option.some.inj e).symm),a4.keep ((Below.refl _ _).setCell (by exact h3) _),by simpa using a5⟩
end
abbrev DevX:=Dev × Option Addr × Nat
def encV (x:DevX):Value:=.agg #[.int .i64 x.1.idx,.int .i64 x.1.par,.string x.1.nm,.string x.1.orig,.string x.1.sub,.string x.1.drv,.string x.1.ali,.int .i64 x.1.kind,.int .i64 x.1.num,.slice x.2.1 x.1.attrs.length x.2.2]
def nxX (B:Nat) (due:List Dev) (pre:List DevX) (x:DevX) (W:World):Prop:=(∃ t,pre.map (·.1) ++ x.1 :: t=due)∧devOk x.1∧Sl W B x.2.1 x.2.2 x.1.attrs
end Go.Cold
namespace Go.Proofs.YtjgllhlilbchpaaGreatDoor
open Go.RowKit Go.Cold Go.Shelf
attribute [local go_sem] Oper.semAt_some
set_option maxRecDepth 100000 in
set_option maxHeartbeats 4000000 in
theorem up1_seq (n gv gi bp bo:Nat) (A:Option Addr) (c N B:Nat) (L:List Dev) (idx:Int) (w:World) (hst:UpSt Tryz.prog 3 gv gi bp bo A c N B L idx w) (hu:(idxs L).Nodup) (hidx:okI idx) (hlen:L.length≤1000) (hk:gi≠gv∧gi≠bp∧B≤gi) :
  SeqT Fence.wide n Tryz.prog 133 #[.pointer (some ⟨gv,0,none⟩),.pointer (some ⟨gi,0,none⟩)] (fun x=>#[encV x]) (fun xs=>xs.map (·.1)=chainO L idx) (nxX B (chainO L idx)) (fun k=>k=gi) (upZ gv gi bp B) w:=fun l JJ W hW hsz hA hY h0=>by
 refine callsIn_of_wp Tryz.func133 rfl trivial ?_ rfl;simp only [Tryz.ntmps133,List.size_toArray,List.length_cons,List.length_nil,Nat.reduceAdd,Nat.reduceSub,Array.replicate_succ,Array.replicate_zero,List.push_toArray,List.append_toArray,List.nil_append,List.cons_append];have HST:=Lh_ (hst.below hW);have HU:=Lh_ hu;have HA:=Lh_ hA;have HY:=Lh_ hY;have HK:=Lh_ hk;have HLN:=Lh_ hlen;have HJ:=Lh_ h0;have HI:=Lh_ hidx;clear hst hW hu hA hY hk hlen h0 hidx;have hx2:=HST.out.2.2.2.1.2.1;have hx1:=HST.out.2.2.2.1.1;unfold maxLen at hx2;have v0:=HST.out.1.1 0 _ rfl;gi_wp2
 clear v0;gi_loopw [9] (fun i wr=>∃ (k:Nat) (pre:List DevX) (m:Int) (M:Nat),k≤L.length∧i=.int .i64 k∧Hid (okI m)∧Hid (pre.map (·.1) ++ chainL L (L.length - k) m=chainO L idx)∧Hid (JJ pre M wr)∧Hid (M≤wr.heap.size)∧Hid (UpSt Tryz.prog 3 gv gi bp bo A c N B L m wr)) (fun i _=>L.length - (intOf i).toNat)
 case atStart=>exact ⟨0,[],idx,W.heap.size,Nat.zero_le _,rfl,HI.out,rfl,HJ.out,Nat.le_refl _,HST⟩
 case round =>
  obtain ⟨k,pre,m,M,hk,rfl,HOM,HSP,HJW,HMW,HST⟩:=hrel;by_cases hlt:k<L.length
  ·
   have i1:(k:Int)<(L.length:Int):=by omega
   have v0:=HST.out.1.1 0 _ rfl;have v1:=HST.out.1.1 1 _ rfl;have v2:=HST.out.1.1 2 _ rfl;have x0:=HST.out.2.1.1 0 _ rfl;have HCALL:=Lh_ (vfind_any A c L bp bo N m wr B HST.out.2.2.2.2 HST.out.2.2.2.1 HST.out.2.2.1 HU.out HOM.out);gi_wp2_with fail
   refine ⟨trivial,(fun h=>by cases h),?_⟩;refine (callsIn_wide.2 HCALL.out).mono ?_;rintro e w3 ⟨hb3,d,A2,c2,hd,rfl,hokd,hat⟩;obtain ⟨j,hj⟩:∃ j,L.length - k=j+1:=⟨L.length - k - 1,by omega⟩;have hsp:=HSP.out;rw [hj,chainL] at hsp;have HST3:=Lh_ (HST.out.below hb3);have HJ3:=Lh_ (HA.out _ _ _ _ HJW.out (.inl hb3));have HB3:=Lh_ hb3;have HOKD:=Lh_ hokd;have HAT:=Lh_ hat;clear hb3 hokd hat v0 v1 v2 x0 HCALL;cases hf:findD L m with
   | none =>
    rw [hf] at hd hsp;simp only [List.append_nil] at hsp;have HFIN:=Lh_ hsp;clear hsp hf hd;gi_wp2
    refine ⟨(fun _ h=>by cases h),?_⟩;gi_wp2
    refine bodyPost_ret (results_none rfl _ _ _) rfl ?_;refine ⟨⟨_,rfl⟩,pre,M,HFIN.out,HA.out _ _ _ _ HJ3.out (.inl ?_)⟩;exact (Below.refl _ _).alloc (Nat.le_refl _) _
   | some dd =>
    rw [hf] at hd hsp;obtain rfl:d=dd:=hd;simp only at hsp;have HSP2:=Lh_ hsp;clear hsp hf HSP;obtain ⟨w4,hw4⟩:∃ z,w3.alloc (.cells #[.int .i64 d.idx,.int .i64 d.par,.string d.nm,.string d.orig,.string d.sub,.string d.drv,.string d.ali,.int .i64 d.kind,.int .i64 d.num,.slice A2 d.attrs.length c2] 32)=z:=⟨_,rfl⟩;have hb4:Below w3.heap.size w3 w4:=by rw [← hw4];exact (Below.refl _ _).alloc (Nat.le_refl _) _
    have hx4:BoxL w4 w3.heap.size [.int .i64 d.idx,.int .i64 d.par,.string d.nm,.string d.orig,.string d.sub,.string d.drv,.string d.ali,.int .i64 d.kind,.int .i64 d.num,.slice A2 d.attrs.length c2]:=box_mk hw4;have HST4:=Lh_ (HST3.out.below hb4);have HJ4:=Lh_ (HA.out _ _ _ _ HJ3.out (.inl hb4));have HX4:=Lh_ hx4;have HNX:=Lh_ (show nxX B (chainO L idx) pre (d,A2,c2) w4 from ⟨⟨_,HSP2.out⟩,HOKD.out,HAT.out.keep (hb4.mono (by have:=HST3.out.2.2.2.2;omega))⟩);have HMN:=Lh_ (show M≤w3.heap.size∧w3.heap.size≤w4.heap.size from ⟨by have:=HMW.out;have:=HB3.out.size;omega,hb4.size⟩);obtain ⟨fn',tmps',assign',body',hy,hR⟩:=HY.out pre (d,A2,c2) M w4 HJ4.out (by have:=HMN.out;omega) HNX.out;dsimp only [encV] at hy;have HR:=Lh_ hR;clear hR hx4 hb4;obtain ⟨y0,y1,y2,y3,y4,y5,y6,y7,y8,y9⟩:=s10_ HX4.out.1;gi_wp2_with fail
    refine ⟨(fun h=>by cases h),?_⟩;refine HR.out.mono ?_;rintro e w5 ⟨rfl,hj5,hk5⟩;have HST5:=Lh_ (HST4.out.kpz hk5 (fun k hk=>.inl hk));have HX5:=Lh_ (HX4.out.kpz hk5 (.inr HMN.out.1));have HJ5:=Lh_ hj5;clear hj5 hk5 hy y0 y1 y2 y3 y4 y5 y6 y7 y8 y9;have y1:=HX5.out.1 1 _ rfl;have x0:=HST5.out.2.1.1 0 _ rfl;have xf:=HST5.out.2.1.2.1;have HST6:=Lh_ (HST5.out.put (m':=d.par) HK.out.1 HK.out.2.1 HK.out.2.2);have HJ6:=Lh_ (HA.out _ _ _ (w5.setCell ⟨gi,0,none⟩ (.int .i64 d.par)) HJ5.out (.inr ⟨gi,rfl,grown_one _ gi 0 _⟩));have HSP3:=Lh_ (show (pre ++ [(d,A2,c2)]).map (·.1) ++ chainL L (L.length - (k+1)) d.par=chainO L idx by rw [List.map_append,List.append_assoc,show L.length - (k+1)=j by omega];exact HSP2.out);have HSZ:=Lh_ (show w5.heap.size≤(w5.setCell ⟨gi,0,none⟩ (.int .i64 d.par)).heap.size by simp);gi_wp2
    go_roundw
    case rel=>exact ⟨k+1,pre ++ [(d,A2,c2)],d.par,w5.heap.size,by omega,by go_num,HOKD.out.2.1,HSP3,HJ6,HSZ,HST6⟩
    case measure=>simp [intOf];omega
  ·
   have i1:¬ (k:Int)<(L.length:Int):=by omega
   have HFIN:=Lh_ (show pre.map (·.1)=chainO L idx by have h:=HSP.out;rw [show L.length - k=0 by omega,chainL,List.append_nil] at h;exact h);gi_wp2
   go_end0
   exact ⟨⟨_,rfl⟩,pre,HFIN.out,M,HJW.out⟩
end Go.Proofs.YtjgllhlilbchpaaGreatDoor
namespace Go.Cold
open Go Go.RowKit
def pthF (l:List Dev):ByteArray:=l.foldl (fun s d=>(⟨#[47]⟩ ++ d.nm) ++ s) ByteArray.empty
theorem VT.names {L:List Dev} (h:VT L):∀ d ∈ L,d.nm.size≤32:=fun d hd=>valid_size (check_names (h.chk d hd)).1
def PaJ (w:World) (g6 gi:Nat) (pre:List DevX) (N:Nat) (W:World):Prop:=Below w.heap.size w W∧BoxL W g6 [.string (pthF (pre.map (·.1)))]∧g6<N
theorem PaJ.abid {w:World} {g6 gi:Nat} (h1:w.heap.size≤gi) (h2:g6≠gi):Abid (fun k=>k=gi) (PaJ w g6 gi):=fun pre N X Y h hst=>by
 obtain ⟨a1,a2,a3⟩:=h;rcases hst with hb | ⟨k,rfl,hg⟩
 · exact ⟨a1.trans (hb.mono a1.size),a2.kept (grown_none hb) (fun e=>by cases e),a3⟩
 · exact ⟨a1.grown hg a1.size (fun q hq=>by have:=Option.some.inj hq;omega),a2.kept hg (fun e=>h2 (Option.some.inj e)),a3⟩
theorem PaJ.putl {w:World} {g6 gi l:Nat} (h1:w.heap.size≤l) (h2:g6≠l):∀ pre N X o,PaJ w g6 gi pre N X→PaJ w g6 gi pre N (X.putObj l o):=fun pre N X o h=>by
 obtain ⟨a1,a2,a3⟩:=h;have hg:=grownBy_putObj' X l o;exact ⟨a1.grown hg a1.size (fun q hq=>by have:=Option.some.inj hq;omega),a2.kept hg (fun e=>h2 (Option.some.inj e)),a3⟩
theorem nxX_keep {B n0:Nat} {due:List Dev} (hB:B≤n0):∀ pre (x:DevX) X Y,nxX B due pre x X→(∀ k,k<n0→Y.heap[k]? = X.heap[k]?)→nxX B due pre x Y:=fun pre x X Y h hk =>
 ⟨h.1,h.2.1,SlS_iff.2 ((SlS_iff.1 h.2.2).mono (fun _ h=>h) (fun b o u hb hu=>(cell_heap (hk b (by omega)) o).trans hu))⟩
end Go.Cold
namespace Go.Proofs.YtjgllhlilbchpaaGreatDoor
open Go.RowKit Go.Cold Go.Shelf
attribute [local go_sem] Oper.semAt_some
theorem up_any (x y z:Value) (n:Int) (w:World):Calls Tryz.prog 92 #[.agg #[x,y,z],.int .i64 n] w fun e w'=>e=.returned (.func (.func 133) #[] #[.pointer (some ⟨w.heap.size,0,none⟩),.pointer (some ⟨w.heap.size+1,0,none⟩)])∧w'=(w.alloc (.cells #[x,y,z] 112)).alloc (.cells #[.int .i64 n] 3):=by
 go_enter Tryz.func92,Tryz.ntmps92;go_wp2;go_ret;exact ⟨rfl,rfl⟩
end Go.Proofs.YtjgllhlilbchpaaGreatDoor
namespace Go.Cold
open Go Go.RowKit
end Go.Cold
namespace Go.Proofs.YtjgllhlilbchpaaGreatDoor
open Go.RowKit Go.Cold
end Go.Proofs.YtjgllhlilbchpaaGreatDoor
namespace Go.Cold
open Go Go.RowKit
def k6:Dev:=⟨6,4,⟨#[115,100,97]⟩,⟨#[115,100,97]⟩,⟨#[98,108,111,99,107]⟩,⟨#[]⟩,⟨#[]⟩,2,9,[]⟩
end Go.Cold
namespace Go.Proofs.YtjgllhlilbchpaaGreatDoor
open Go.RowKit Go.Cold
end Go.Proofs.YtjgllhlilbchpaaGreatDoor
namespace Go.Cold
open Go Go.RowKit
end Go.Cold
namespace Go.Proofs.YtjgllhlilbchpaaGreatDoor
open Go.RowKit Go.Cold
theorem ok_of_shape (W:World) (h:W.ShapedOpen Tryz.prog):Ok W:=Tryz.laysM146.s1_3 W h
theorem tape_new {w:World} {A:Option Addr} {c:Nat} {xs:List Int} (h:Sl w w.heap.size A c xs):TapeAt (w.alloc (.cells #[.slice A xs.length c,.int .i64 0] 25)) w.heap.size w.heap.size xs 0:=by
 refine ⟨A,c,?_,?_,fun j=>World.frozen?_alloc_at _ _ _ _ rfl,h.keep ((Below.refl _ _).alloc (Nat.le_refl _) _),Nat.le_refl _,by simp⟩ <;> (rw [World.cell?_alloc_at _ _ _ _ rfl];rfl)
theorem notG_of {w:World} (h:Ok w):NotG w.heap.size:=by
 obtain ⟨m,hm⟩:=h;have:=block_lt_of_cell hm;intro e;rw [← e] at this;exact absurd this (Nat.lt_irrefl _)
end Go.Proofs.YtjgllhlilbchpaaGreatDoor
namespace Go.Cold
open Go Go.RowKit
theorem OwnsS.attr {F F':Nat→Prop} {w:World} {base:Nat} {e:TypeId} {v:Value} {xs:List Attr} (h:OwnsS F w base e v xs):OwnsS F' w base e v xs:=by
 obtain ⟨css,h1,h2,h3⟩:=h;exact ⟨css,h1,h2,fun i x cs hx hcs=>h3 i x cs hx hcs⟩
theorem owns_made (F:Nat→Prop) (w:World) {base:Nat} (T:TypeId) (α:Type) [RepS α] (hb:base≤w.heap.size):OwnsS F (w.alloc (.cells #[] T)) base T (.slice (some ⟨w.heap.size,0,none⟩) 0 0) ([]:List α):=by
 refine ⟨[],⟨by simp,.inr ⟨w.heap.size,0,#[],rfl,hb,?_,Nat.le_refl _,by unfold maxLen;omega,by simp,by simp⟩⟩,rfl,fun i x cs h=>by simp at h⟩;show (w.heap.push _)[w.heap.size]? = _
 exact Array.getElem?_push_size
theorem SlS.set10 {α:Type} [RepS α] {w:World} {A:Option Addr} {c g:Nat} {xs:List α} {S:Nat→Prop} (h:SlS w S A c xs) (hS:∀ x,S x→x≠g) (v0 v1 v2 v3 v4 v5 v6 v7 v8 v9:Value) :
  SlS ((((((((((w.setCell ⟨g,0,none⟩ v0).setCell ⟨g,1,none⟩ v1).setCell ⟨g,2,none⟩ v2).setCell ⟨g,3,none⟩ v3).setCell ⟨g,4,none⟩ v4).setCell ⟨g,5,none⟩ v5).setCell ⟨g,6,none⟩ v6).setCell ⟨g,7,none⟩ v7).setCell ⟨g,8,none⟩ v8).setCell ⟨g,9,none⟩ v9) S A c xs :=
 (((((((((h.set_ hS v0).set_ hS v1).set_ hS v2).set_ hS v3).set_ hS v4).set_ hS v5).set_ hS v6).set_ hS v7).set_ hS v8).set_ hS v9
end Go.Cold
namespace Go.Proofs.YtjgllhlilbchpaaGreatDoor
open Go.RowKit Go.Cold
set_option maxRecDepth 100000 in
theorem Clone_any (A:Option Addr) (c:Nat) (ys:List Attr) (w:World) (B:Nat) (hB:B≤w.heap.size) (hx:Sl w B A c ys) (hl:ys.length≤1000000):Calls Tryz.prog 128 #[.slice A ys.length c] w fun e w'=>Below w.heap.size w w'∧∃ v,e=.returned v∧OwnsS (fun _=>False) w' w.heap.size 42 v ys:=by
 have hx1:=hx.1;have hx2:=hx.2.1;unfold maxLen at hx2;have HX:=Lh_ hx;have HB:=Lh_ hB;have HL:=Lh_ hl;clear hx hB hl;rcases A with _ | A
 ·
  have h0:ys=[]:=by
    rcases ys with _ | ⟨y,r⟩
    · rfl
    ·
     obtain ⟨b,o,e,_⟩:=HX.out.2.2 (by simp)
     cases e
  subst h0;go_enter Tryz.func128,Tryz.ntmps128;have hn:=fun W=>Lib.run_eql_slice_nil_nil (P:=Tryz.prog) W 0 c Tryz.underlying30
  go_wp2;go_ret;exact ⟨Below.refl _ _,.slice none 0 0,by try rfl,OwnsS.nil_ _ _ _ _⟩
 ·
  go_enter Tryz.func128,Tryz.ntmps128;have hn:=fun W=>Lib.run_eql_slice_some_nil (P:=Tryz.prog) W A ys.length c Tryz.underlying30
  go_upto_region 3 with fail
  have HOWN0:=Lh_ (owns_made (fun x=>x<B) w (base:=w.heap.size) 42 Attr (Nat.le_refl _));have hb1:Below w.heap.size w (w.alloc (.cells #[] 42)):=(Below.refl _ _).alloc (Nat.le_refl _) _;have HB1:=Lh_ hb1;clear hb1;have HSRC:=Lh_ (show SlS (w.alloc (.cells #[] 42)) (fun b=>b<B∧b<(w.alloc (.cells #[] 42)).heap.size∧(Value.slice (some ⟨w.heap.size,0,none⟩) 0 0).ownBlock≠some b) (some A) c ys from (SlS_iff.1 (HX.out.keep (HB1.out.mono HB.out))).mono (fun b hb=>⟨hb,by have:=HB.out;have:=HB1.out.size;omega,fun e=>by have h1:w.heap.size=b:=Option.some.inj e;have:=HB.out;have h2:b<B:=hb;omega⟩) (fun _ _ _ _ hu=>hu));clear hx1 hx2 hn;go_wp2_with (at_builtin;go_must (refine wpList_app rfl _ _ rfl (.slice (some ⟨w.heap.size,0,none⟩) 0 0) _ rfl rfl (run_appL E_attr _ _ [] HOWN0.out (some A) c ys (.inl HSRC.out) (by have:=HL.out;simp;unfold maxLen;omega) (by have:=HL.out;simp;omega) HB1.out.size) ?_);intro v1 w1 hR_;have HR1:=Lh_ hR_;clear hR_);obtain ⟨ho,hg,-⟩:=HR1.out;rw [List.nil_append] at ho;go_ret;exact ⟨HB1.out.grown hg HB1.out.size (fun q hq=>by have h1:w.heap.size=q:=Option.some.inj hq;omega),v1,by try rfl,ho.attr⟩
set_option maxRecDepth 100000 in
set_option maxHeartbeats 4000000 in
theorem copied_any (d:Dev) (A2:Option Addr) (c2:Nat) (w:World) (B:Nat) (hB:B≤w.heap.size) (hx:Sl w B A2 c2 d.attrs) (hl:d.attrs.length≤1000000):Calls Tryz.prog 83 #[.agg #[.int .i64 d.idx,.int .i64 d.par,.string d.nm,.string d.orig,.string d.sub,.string d.drv,.string d.ali,.int .i64 d.kind,.int .i64 d.num,.slice A2 d.attrs.length c2]] w fun e w'=>Below w.heap.size w w'∧∃ (A3:Option Addr) (c3:Nat),e=.returned (.agg #[.int .i64 d.idx,.int .i64 d.par,.string d.nm,.string d.orig,.string d.sub,.string d.drv,.string d.ali,.int .i64 d.kind,.int .i64 d.num,.slice A3 d.attrs.length c3])∧SlS w' (fun b=>w.heap.size≤b∧b<w'.heap.size) A3 c3 d.attrs:=by
 have hzv:=(zero_of_info (P:=Tryz.prog) (t:=32) info_dev2).1;have HX:=Lh_ hx;have HB:=Lh_ hB;have HL:=Lh_ hl;clear hx hB hl;go_enter Tryz.func83,Tryz.ntmps83;go_upto_region 1 with fail
 obtain ⟨w1,hw1,hbw1,HGw1,HXdw1⟩:=bx_ w [.int .i64 d.idx,.int .i64 d.par,.string d.nm,.string d.orig,.string d.sub,.string d.drv,.string d.ali,.int .i64 d.kind,.int .i64 d.num,.slice A2 d.attrs.length c2] 32;try simp only [hw1]
 have HSw1:=Lh_ (show w.heap.size≤w1.heap.size from hbw1.size);have HBw1:=Lh_ hbw1;clear hw1 hbw1;try rw [← HGw1.out]
 obtain ⟨w2,hw2,hbw2,HGw2,HXrw2⟩:=bx_ w1 [.int .i64 0,.int .i64 0,.string ByteArray.empty,.string ByteArray.empty,.string ByteArray.empty,.string ByteArray.empty,.string ByteArray.empty,.int .i64 0,.int .i64 0,.slice none 0 0] 32;try simp only [hw2]
 have HSw2:=Lh_ (show w1.heap.size≤w2.heap.size from hbw2.size);have HBw2:=tb_ HBw1 hbw2;have dw2:=kb_ HXdw1 hbw2;clear hw2 hbw2;try rw [← HGw2.out]
 obtain ⟨cd0,cd1,cd2,cd3,cd4,cd5,cd6,cd7,cd8,cd9⟩:=s10_ dw2.out.1;have cfd:=dw2.out.2.1;obtain ⟨cr0,cr1,cr2,cr3,cr4,cr5,cr6,cr7,cr8,cr9⟩:=s10_ HXrw2.out.1;have cfr:=HXrw2.out.2.1;go_wp2_with fail;refine (Clone_any A2 c2 d.attrs _ B (Nat.le_trans HB.out HBw2.out.size) (HX.out.keep (HBw2.out.mono HB.out)) HL.out).mono ?_;rintro e w3 ⟨hbw3,v,rfl,hown⟩;clear cd0 cd1 cd2 cd3 cd4 cd5 cd6 cd7 cd8 cd9 cfd cr0 cr1 cr2 cr3 cr4 cr5 cr6 cr7 cr8 cr9 cfr;have HSw3:=Lh_ (show w2.heap.size≤w3.heap.size from hbw3.size);have HBw3:=tb_ HBw2 hbw3;have dw3:=kb_ dw2 hbw3;have rw3:=kb_ HXrw2 hbw3;clear hbw3;obtain ⟨cd0,cd1,cd2,cd3,cd4,cd5,cd6,cd7,cd8,cd9⟩:=s10_ dw3.out.1;have cfd:=dw3.out.2.1;obtain ⟨cr0,cr1,cr2,cr3,cr4,cr5,cr6,cr7,cr8,cr9⟩:=s10_ rw3.out.1;have cfr:=rw3.out.2.1;obtain ⟨A3,c3,rfl,hsl⟩:=hown.cs;have HSL:=Lh_ (show SlS w3 (fun b=>w2.heap.size≤b∧b<w3.heap.size) A3 c3 d.attrs from hsl.mono (fun b hb=>⟨hb.1.elim (fun h=>h.elim) id,hb.2⟩) (fun _ _ _ _ hu=>hu));clear hown hsl;have HN1:=Lh_ (show ∀ x,(w2.heap.size≤x∧x<w3.heap.size)→x≠w.heap.size from fun x hx=>by have:=HGw1.out;have:=HGw2.out;omega);have HN2:=Lh_ (show ∀ x,(w2.heap.size≤x∧x<w3.heap.size)→x≠w1.heap.size from fun x hx=>by have:=HGw2.out;omega);have hne:w.heap.size≠w1.heap.size:=by have:=HGw1.out;omega
 go_wp2;refine bodyPost_ret (v:=.agg #[.int .i64 d.idx,.int .i64 d.par,.string d.nm,.string d.orig,.string d.sub,.string d.drv,.string d.ali,.int .i64 d.kind,.int .i64 d.num,.slice A3 d.attrs.length c3]) (by simp [results,Tryz.results83,go_sem,cr0,cr1,cr2,cr3,cr4,cr5,cr6,cr7,cr8,cr9,cfr,hne]) rfl ⟨below10 (HBw3.out.setCell (Nat.le_refl _) _) (by have:=HGw1.out;omega) _ _ _ _ _ _ _ _ _ _,A3,c3,rfl,((HSL.out.set_ HN1.out _).set10 HN2.out _ _ _ _ _ _ _ _ _ _).mono (fun b hb=>⟨by have:=HGw1.out;have:=HGw2.out;omega,by simpa using hb.2⟩) (fun _ _ _ _ hu=>hu)⟩
end Go.Proofs.YtjgllhlilbchpaaGreatDoor
namespace Go.Cold
open Go Go.RowKit
theorem find_idx2 {p:Dev→Bool}:∀ L:List Dev,(idxInt p L = -1∧L.find? p=none)∨∃ (k:Nat) (y:Dev),idxInt p L=(k:Int)∧L[k]? = some y∧L.find? p=some y
 | []=>.inl ⟨rfl,rfl⟩
 | d :: r=>by
  by_cases hd:p d=true
  · exact .inr ⟨0,d,by unfold idxInt;rw [List.findIdx?_cons,if_pos hd],rfl,by rw [List.find?_cons_of_pos hd]⟩
  ·
   have hd2:p d=false:=by simpa using hd
   have hi:∀ i,r.findIdx? p=i→idxInt p (d :: r)=match i with | some j=>((j+1:Nat):Int) | none=>-1:=by
    intro i hri;unfold idxInt;rw [List.findIdx?_cons,if_neg (by simp [hd2]),hri];cases i <;> rfl
   rcases find_idx2 r with ⟨h1,h2⟩ | ⟨k,y,h1,h2,h3⟩
   ·
    left
    refine ⟨?_,by rw [List.find?_cons_of_neg (by simp [hd2]),h2]⟩;cases hri:r.findIdx? p with
    | none=>rw [hi _ hri]
    | some j=>unfold idxInt at h1;rw [hri] at h1;simp only at h1;omega
   ·
    right
    refine ⟨k+1,y,?_,by simpa using h2,by rw [List.find?_cons_of_neg (by simp [hd2]),h3]⟩;cases hri:r.findIdx? p with
    | none=>unfold idxInt at h1;rw [hri] at h1;simp only at h1;omega
    | some j =>
     rw [hi _ hri];unfold idxInt at h1;rw [hri] at h1;simp only at h1 ⊢;omega
def FirstP (p:Dev→Bool) (L:List Dev) (w:World) (e:Ending) (w':World):Prop:=Below w.heap.size w w'∧∃ (d:Dev) (A3:Option Addr) (c3:Nat),d=(L.find? p).getD zeroD∧e=.returned (.tuple #[.agg #[.int .i64 d.idx,.int .i64 d.par,.string d.nm,.string d.orig,.string d.sub,.string d.drv,.string d.ali,.int .i64 d.kind,.int .i64 d.num,.slice A3 d.attrs.length c3],.bool (L.find? p).isSome])∧devOk d∧SlS w' (fun b=>w.heap.size≤b∧b<w'.heap.size) A3 c3 d.attrs
def byIdx (n:Int) (d:Dev):Bool:=decide (d.idx=n)
end Go.Cold
namespace Go.Proofs.YtjgllhlilbchpaaGreatDoor
open Go.RowKit Go.Cold
set_option maxRecDepth 100000 in
set_option maxHeartbeats 4000000 in
theorem first_any (A:Option Addr) (c:Nat) (L:List Dev) (f:FuncId) (caps:Array Value) (Q:Dev→Prop) (p:Dev→Bool) (w:World) (B:Nat) (hB:B≤w.heap.size) (hx:Sl w B A c L) (hp:PredD f caps w B Q p) (hq:∀ d ∈ L,Q d) (hl:∀ d ∈ L,d.attrs.length≤1000000) :
  Calls Tryz.prog 77 #[.agg #[.slice A L.length c],.func (.func f) #[] caps] w (FirstP p L w):=by
 have hzv:=(zero_of_info (P:=Tryz.prog) (t:=32) info_dev2).1;have hx1:=hx.1;have hx2:=hx.2.1;unfold maxLen at hx2;have HX:=Lh_ hx;have HB:=Lh_ hB;have HP:=Lh_ hp;have HQ:=Lh_ hq;have HL:=Lh_ hl;clear hx hB hp hq hl;go_enter Tryz.func77,Tryz.ntmps77;go_upto_region 1 with fail
 obtain ⟨w1,hw1,hbw1,HGw1,HXtw1⟩:=bx_ w [.slice A L.length c] 28;try simp only [hw1]
 have HSw1:=Lh_ (show w.heap.size≤w1.heap.size from hbw1.size);have HBw1:=Lh_ hbw1;clear hw1 hbw1;try rw [← HGw1.out]
 obtain ⟨w2,hw2,hbw2,HGw2,HXrw2⟩:=bx_ w1 [.int .i64 0,.int .i64 0,.string ByteArray.empty,.string ByteArray.empty,.string ByteArray.empty,.string ByteArray.empty,.string ByteArray.empty,.int .i64 0,.int .i64 0,.slice none 0 0] 32;try simp only [hw2]
 have HSw2:=Lh_ (show w1.heap.size≤w2.heap.size from hbw2.size);have HBw2:=tb_ HBw1 hbw2;have tw2:=kb_ HXtw1 hbw2;clear hw2 hbw2;try rw [← HGw2.out]
 have ct0:=tw2.out.1 0 _ rfl;obtain ⟨cr0,cr1,cr2,cr3,cr4,cr5,cr6,cr7,cr8,cr9⟩:=s10_ HXrw2.out.1;have cfr:=HXrw2.out.2.1;go_wp2_with fail;refine (IndexFuncD_any A c L f caps Q p _ B (Nat.le_trans HB.out HBw2.out.size) (HX.out.keep (HBw2.out.mono HB.out)) (HP.out.next HBw2.out) HQ.out).mono ?_;rintro e w3 ⟨rfl,hbw3⟩;clear ct0 cr0 cr1 cr2 cr3 cr4 cr5 cr6 cr7 cr8 cr9 cfr;have HSw3:=Lh_ (show w2.heap.size≤w3.heap.size from hbw3.size);have HBw3:=tb_ HBw2 hbw3;have tw3:=kb_ tw2 hbw3;have rw3:=kb_ HXrw2 hbw3;clear hbw3;have ct0:=tw3.out.1 0 _ rfl;obtain ⟨cr0,cr1,cr2,cr3,cr4,cr5,cr6,cr7,cr8,cr9⟩:=s10_ rw3.out.1;have cfr:=rw3.out.2.1;have hzv:=(zero_of_info (P:=Tryz.prog) (t:=32) info_dev2).1;rcases find_idx2 (p:=p) L with ⟨h1,h2⟩ | ⟨k,y,h1,h2,h3⟩
 ·
  rw [h1];have HF:=Lh_ h2;clear h1 h2;go_wp2;refine bodyPost_ret (v:=.tuple #[.agg #[.int .i64 0,.int .i64 0,.string ByteArray.empty,.string ByteArray.empty,.string ByteArray.empty,.string ByteArray.empty,.string ByteArray.empty,.int .i64 0,.int .i64 0,.slice none 0 0],.bool false]) (by simp [results,Tryz.results77,go_sem,cr0,cr1,cr2,cr3,cr4,cr5,cr6,cr7,cr8,cr9,cfr]) rfl ⟨below10 HBw3.out (by have:=HGw1.out;omega) _ _ _ _ _ _ _ _ _ _,zeroD,none,0,by rw [HF.out];rfl,by rw [HF.out];rfl,zero_ok,SlS.nil_⟩
 ·
  have hk:k<L.length:=(List.getElem?_eq_some_iff.1 h2).1;have hky:L[k]'hk=y:=(List.getElem?_eq_some_iff.1 h2).2;rw [h1];have HF:=Lh_ h3;have HM:=Lh_ (List.mem_of_getElem? h2);clear h1 h2 h3;have i1:(k:Int)<(L.length:Int):=by omega
  have i2:(0:Int)≤(k:Int):=by omega
  have i3:¬ (k:Int)<0:=by omega
  obtain ⟨b3,o3,rfl,hb3,A2,c2,hok3,hat3,hdc⟩:=(HX.out.keep (HBw3.out.mono HB.out)).dev hk;rw [hky] at hok3 hat3 hdc;have HOK:=Lh_ hok3;have HAT:=Lh_ hat3;obtain ⟨d0,d1,d2,d3,d4,d5,d6,d7,d8,d9⟩:=hdc;clear hok3 hat3 hky hb3;go_wp2_with fail;refine (copied_any y A2 c2 _ B (Nat.le_trans HB.out HBw3.out.size) HAT.out (HL.out y HM.out)).mono ?_;rintro e w4 ⟨hbw4,A3,c3,rfl,hsl⟩;clear ct0 cr0 cr1 cr2 cr3 cr4 cr5 cr6 cr7 cr8 cr9 cfr;have HSw4:=Lh_ (show w3.heap.size≤w4.heap.size from hbw4.size);have HBw4:=tb_ HBw3 hbw4;have tw4:=kb_ tw3 hbw4;have rw4:=kb_ rw3 hbw4;clear hbw4;clear d0 d1 d2 d3 d4 d5 d6 d7 d8 d9;have ct0:=tw4.out.1 0 _ rfl;obtain ⟨cr0,cr1,cr2,cr3,cr4,cr5,cr6,cr7,cr8,cr9⟩:=s10_ rw4.out.1;have cfr:=rw4.out.2.1;have HSL:=Lh_ hsl;clear hsl;have HN2:=Lh_ (show ∀ x,(w3.heap.size≤x∧x<w4.heap.size)→x≠w1.heap.size from fun x hx=>by have:=HGw2.out;have:=HSw3.out;omega);go_wp2;refine bodyPost_ret (v:=.tuple #[.agg #[.int .i64 y.idx,.int .i64 y.par,.string y.nm,.string y.orig,.string y.sub,.string y.drv,.string y.ali,.int .i64 y.kind,.int .i64 y.num,.slice A3 y.attrs.length c3],.bool true]) (by simp [results,Tryz.results77,go_sem,cr0,cr1,cr2,cr3,cr4,cr5,cr6,cr7,cr8,cr9,cfr]) rfl ⟨below10 HBw4.out (by have:=HGw1.out;omega) _ _ _ _ _ _ _ _ _ _,y,A3,c3,by rw [HF.out];rfl,by rw [HF.out];rfl,HOK.out,((HSL.out.set10 HN2.out _ _ _ _ _ _ _ _ _ _).mono (fun b hb=>⟨by have:=HGw1.out;have:=HGw2.out;have:=HSw3.out;omega,by simpa using hb.2⟩) (fun _ _ _ _ hu=>hu))⟩
set_option maxRecDepth 100000 in
theorem find1_pred (g:Nat) (n:Int) (w:World) (B:Nat) (hv:BoxL w g [.int .i64 n]) :
  PredD 78 #[.pointer (some ⟨g,0,none⟩)] w B (fun _=>True) (byIdx n):=by
 refine ⟨enters_of Tryz.func78 (by kernel_rfl) rfl,fun x A2 c2 W hxo hat hq hW=>?_⟩;have HV:=Lh_ (hv.kept (grown_none hW) (fun e=>by cases e));clear hv hxo hat hq hW;go_enter Tryz.func78,Tryz.ntmps78;go_upto_region 1 with fail
 obtain ⟨w1,hw1,hbw1,HGw1,HXxw1⟩:=bx_ W [.int .i64 x.idx,.int .i64 x.par,.string x.nm,.string x.orig,.string x.sub,.string x.drv,.string x.ali,.int .i64 x.kind,.int .i64 x.num,.slice A2 x.attrs.length c2] 32;try simp only [hw1]
 have HSw1:=Lh_ (show W.heap.size≤w1.heap.size from hbw1.size);have HBw1:=Lh_ hbw1;have vw1:=kb_ HV hbw1;clear hw1 hbw1;try rw [← HGw1.out]
 have cv0:=vw1.out.1 0 _ rfl;have cx0:=HXxw1.out.1 0 _ rfl;go_wp2;go_ret;exact ⟨by try rfl,HBw1.out⟩
set_option maxRecDepth 100000 in
set_option maxHeartbeats 4000000 in
theorem TFind_any (A:Option Addr) (c:Nat) (L:List Dev) (n:Int) (w:World) (B:Nat) (hB:B≤w.heap.size) (hx:Sl w B A c L) (hl:∀ d ∈ L,d.attrs.length≤1000000) :
  Calls Tryz.prog 34 #[.agg #[.slice A L.length c],.int .i64 n] w (FirstP (byIdx n) L w):=by
 have hzv:=(zero_of_info (P:=Tryz.prog) (t:=32) info_dev2).1;have HX:=Lh_ hx;have HB:=Lh_ hB;have HL:=Lh_ hl;clear hx hB hl;go_enter Tryz.func34,Tryz.ntmps34;go_upto_region 1 with fail
 obtain ⟨w1,hw1,hbw1,HGw1,HXtw1⟩:=bx_ w [.slice A L.length c] 28;try simp only [hw1]
 have HSw1:=Lh_ (show w.heap.size≤w1.heap.size from hbw1.size);have HBw1:=Lh_ hbw1;clear hw1 hbw1;try rw [← HGw1.out]
 obtain ⟨w2,hw2,hbw2,HGw2,HXaw2⟩:=bx_ w1 [.int .i64 n] 3;try simp only [hw2]
 have HSw2:=Lh_ (show w1.heap.size≤w2.heap.size from hbw2.size);have HBw2:=tb_ HBw1 hbw2;have tw2:=kb_ HXtw1 hbw2;clear hw2 hbw2;try rw [← HGw2.out]
 obtain ⟨w3,hw3,hbw3,HGw3,HXrw3⟩:=bx_ w2 [.int .i64 0,.int .i64 0,.string ByteArray.empty,.string ByteArray.empty,.string ByteArray.empty,.string ByteArray.empty,.string ByteArray.empty,.int .i64 0,.int .i64 0,.slice none 0 0] 32;try simp only [hw3]
 have HSw3:=Lh_ (show w2.heap.size≤w3.heap.size from hbw3.size);have HBw3:=tb_ HBw2 hbw3;have tw3:=kb_ tw2 hbw3;have aw3:=kb_ HXaw2 hbw3;clear hw3 hbw3;try rw [← HGw3.out]
 have ct0:=tw3.out.1 0 _ rfl;have ca0:=aw3.out.1 0 _ rfl;have cfr:=HXrw3.out.2.1;go_wp2_with fail;refine (first_any A c L _ _ (fun _=>True) _ _ B (Nat.le_trans HB.out HBw3.out.size) (HX.out.keep (HBw3.out.mono HB.out)) (find1_pred _ n _ B aw3.out) (fun _ _=>trivial) HL.out).mono ?_;rintro e w4 ⟨hbw4,d,A3,c3,hd,rfl,hok3,hsl⟩;clear ct0 ca0 cfr;have HSw4:=Lh_ (show w3.heap.size≤w4.heap.size from hbw4.size);have HBw4:=tb_ HBw3 hbw4;have tw4:=kb_ tw3 hbw4;have aw4:=kb_ aw3 hbw4;have rw4:=kb_ HXrw3 hbw4;clear hbw4;have HD:=Lh_ hd;have HDO:=Lh_ hok3;have HSL:=Lh_ hsl;clear hd hok3 hsl;obtain ⟨cr0,cr1,cr2,cr3,cr4,cr5,cr6,cr7,cr8,cr9⟩:=s10_ rw4.out.1;have cfr:=rw4.out.2.1;have HN2:=Lh_ (show ∀ x,(w3.heap.size≤x∧x<w4.heap.size)→x≠w2.heap.size from fun x hx=>by have:=HGw3.out;omega);obtain ⟨q,hq⟩:∃ q,(L.find? (byIdx n)).isSome=q:=⟨_,rfl⟩;rw [hq];have HQ_:=Lh_ hq;clear hq;go_wp2;refine bodyPost_ret (v:=.tuple #[.agg #[.int .i64 d.idx,.int .i64 d.par,.string d.nm,.string d.orig,.string d.sub,.string d.drv,.string d.ali,.int .i64 d.kind,.int .i64 d.num,.slice A3 d.attrs.length c3],.bool q]) (by simp [results,Tryz.results34,go_sem,cr0,cr1,cr2,cr3,cr4,cr5,cr6,cr7,cr8,cr9,cfr]) rfl ⟨below10 HBw4.out (by have:=HGw1.out;have:=HGw2.out;omega) _ _ _ _ _ _ _ _ _ _,d,A3,c3,HD.out,by rw [HQ_.out],HDO.out,((HSL.out.set10 HN2.out _ _ _ _ _ _ _ _ _ _).mono (fun b hb=>⟨by have:=HGw1.out;have:=HGw2.out;have:=HGw3.out;omega,by simpa using hb.2⟩) (fun _ _ _ _ hu=>hu))⟩
end Go.Proofs.YtjgllhlilbchpaaGreatDoor
namespace Go.Cold
open Go Go.RowKit
end Go.Cold
namespace Go.Proofs.YtjgllhlilbchpaaGreatDoor
open Go.RowKit Go.Cold
end Go.Proofs.YtjgllhlilbchpaaGreatDoor
namespace Go.Proofs.YtjgllhlilbchpaaGreatDoor
open Go.RowKit Go.Cold
end Go.Proofs.YtjgllhlilbchpaaGreatDoor
namespace Go.Cold
open Go Go.RowKit
theorem OwnsS.wide {α:Type} [RepS α] {F F':Nat→Prop} {w:World} {base:Nat} {e:TypeId} {v:Value} {xs:List α} (h:OwnsS F w base e v xs) (hF:∀ x,F x→F' x):OwnsS F' w base e v xs:=by
 obtain ⟨css,h1,h2,h3⟩:=h;exact ⟨css,h1,h2,fun i x cs hx hcs=>RepS.mono (fun b ⟨a1,a2,a3⟩=>⟨hF b a1,a2,a3⟩) (fun _ _ _ _ hu=>hu) (h3 i x cs hx hcs)⟩
end Go.Cold
namespace Go.Proofs.YtjgllhlilbchpaaGreatDoor
open Go.RowKit Go.Cold
def GotP (F:Nat→Prop) (l:List Dev) (w:World) (e:Ending) (w':World):Prop:=Below w.heap.size w w'∧∃ v,e=.returned v∧OwnsS F w' w.heap.size 32 v l
end Go.Proofs.YtjgllhlilbchpaaGreatDoor
