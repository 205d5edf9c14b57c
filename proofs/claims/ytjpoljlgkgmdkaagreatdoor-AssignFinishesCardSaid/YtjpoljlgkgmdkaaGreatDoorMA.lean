/-
  Words for memory that all walks of this claim share: how a list of data lies in a slice. No program is named here.
-/
import Derived.WalkKit
import Derived.WalkSpells
import Derived.WalkLawsBesides
import Derived.Deep.QuietTactic
import Derived.BigQuiet
import Derived.Deep.Draws
import Derived.Laws.OwnMore
import Derived.Lib.Hide
import Derived.Deep.DeepMust
import Derived.Deep.DeepFit
import Derived.Deep.LoopGhost
import Derived.Lib.Strings
import Derived.Laws.Rows
import Derived.Laws.Tables
import Derived.Deep.WholeRow
import Derived.Lib.AsciiSet
import Derived.Laws.IdiomStrings
import Derived.Laws.AppendOwn
import Derived.Maps.AppendAt
import Derived.Lib.SlTrimSet
import Derived.Lib.Split
import Derived.Lib.Join
import Derived.Lib.SplitLaws
import Derived.Lib.IndexAny
import Derived.WideShapes
import Derived.Lib.Replace
import Derived.Lib.IndexBytes
set_option linter.unusedSimpArgs false
set_option linter.unusedVariables false
namespace Go.Proofs.YtjpoljlgkgmdkaaGreatDoor
end Go.Proofs.YtjpoljlgkgmdkaaGreatDoor
namespace Go.Cold
open Go Go.RowKit Go.Proofs.YtjpoljlgkgmdkaaGreatDoor

class Rep (α:Type) where
 size:Nat
 rd:World→Nat→α→List Value→Prop
 len:∀ {w B a cs},rd w B a cs→cs.length=size
 keep:∀ {w w' B a cs},Below B w w'→rd w B a cs→rd w' B a cs
 more:∀ {w B B' a cs},B≤B'→rd w B a cs→rd w B' a cs

instance:Rep ByteArray where
 size:=1
 rd _ _ s cs:=cs=[.string s]∧s.size≤maxLen
 len h:=by rw [h.1];rfl
 keep _ h:=h
 more _ h:=h

instance:Rep Int where
 size:=1
 rd _ _ n cs:=cs=[.int .i64 n]∧-9223372036854775808≤n∧n≤9223372036854775807
 len h:=by rw [h.1];rfl
 keep _ h:=h
 more _ h:=h

instance:Rep Bool where
 size:=1
 rd _ _ b cs:=cs=[.bool b]
 len h:=by rw [h];rfl
 keep _ h:=h
 more _ h:=h

def Sl {α:Type} [Rep α] (w:World) (B:Nat) (A:Option Addr) (c:Nat) (xs:List α):Prop :=
 xs.length≤c∧c≤maxLen∧(0<xs.length→∃ b o,A=some ⟨b,o,none⟩∧b<B∧
  ∀ i x,xs[i]? = some x→∃ cs,Rep.rd w B x cs∧∀ j u,cs[j]? = some u→w.cell? ⟨b,o+(i * Rep.size α+j),none⟩=some u)

theorem add_mk (b o n:Nat):(⟨b,o,none⟩:Addr).add n=⟨b,o+n,none⟩:=by
 unfold Addr.add;split <;> simp_all

section
variable {α:Type} [Rep α] {w w':World} {B B' c:Nat} {A:Option Addr} {xs:List α}

theorem Sl.keep (h:Sl w B A c xs) (hb:Below B w w'):Sl w' B A c xs :=
 ⟨h.1,h.2.1,fun hn=>by
  obtain ⟨b,o,e,hlt,hc⟩:=h.2.2 hn;refine ⟨b,o,e,hlt,fun i x hx=>?_⟩;obtain ⟨cs,hr,hcs⟩:=hc i x hx;exact ⟨cs,Rep.keep hb hr,fun j u hu=>(hb.cell (by exact hlt)).trans (hcs j u hu)⟩⟩
theorem Sl.more (h:Sl w B A c xs) (hB:B≤B'):Sl w B' A c xs :=
 ⟨h.1,h.2.1,fun hn=>by
  obtain ⟨b,o,e,hlt,hc⟩:=h.2.2 hn;refine ⟨b,o,e,by omega,fun i x hx=>?_⟩;obtain ⟨cs,hr,hcs⟩:=hc i x hx;exact ⟨cs,Rep.more hB hr,hcs⟩⟩
theorem below_drewN_self (w:World) (B n:Nat):Below B w (w.drewN n):=⟨rfl,rfl,rfl,Nat.le_refl _,fun _ _=>rfl⟩
theorem Sl.drewN (h:Sl w B A c xs) (n:Nat):Sl (w.drewN n) B A c xs:=h.keep (below_drewN_self _ _ _)
theorem Sl.next (h:Sl w B A c xs) (hB:B≤w.heap.size) (hb:Below w.heap.size w w'):Sl w' w'.heap.size A c xs:=(h.keep (hb.mono hB)).more (by have:=hb.size;omega)
theorem Sl.nil_:Sl w B A 0 ([]:List α):=⟨by simp,by simp [maxLen],fun h=>absurd h (by simp)⟩
theorem Sl.at_ (h:Sl w B A c xs) {i:Nat} (hi:i<xs.length):∃ b o,A=some ⟨b,o,none⟩∧b<B∧∃ cs,Rep.rd w B xs[i] cs∧∀ j u,cs[j]? = some u→w.cell? ⟨b,o+(i * Rep.size α+j),none⟩=some u:=by
 obtain ⟨b,o,e,C,D⟩:=h.2.2 (by omega);exact ⟨b,o,e,C,D i _ (List.getElem?_eq_getElem hi)⟩
end

theorem Sl.str {w:World} {B c:Nat} {A:Option Addr} {xs:List ByteArray} (h:Sl w B A c xs) {i:Nat} (hi:i<xs.length) :
  ∃ b o,A=some ⟨b,o,none⟩∧b<B∧w.cell? ⟨b,o+i,none⟩=some (.string xs[i])∧xs[i].size≤maxLen:=by
 obtain ⟨b,o,e,C,G,E,D⟩:=h.at_ hi;obtain ⟨rfl,F⟩:=E;exact ⟨b,o,e,C,by have:=D 0 _ rfl;simpa [Rep.size] using this,F⟩
theorem Sl.strs {w:World} {B c:Nat} {A:Option Addr} {xs:List ByteArray} (h:Sl w B A c xs) (h0:0<xs.length) :
  ∃ b o,A=some ⟨b,o,none⟩∧b<B∧∀ (i:Nat) x,xs[i]? = some x→w.cell? ⟨b,o+i,none⟩=some (.string x):=by
 obtain ⟨b,o,e,D,E⟩:=h.2.2 h0;refine ⟨b,o,e,D,fun i x hx=>?_⟩;obtain ⟨G,F,C⟩:=E i x hx;obtain ⟨rfl,H⟩:=F;have:=C 0 _ rfl;simpa [Rep.size] using this
theorem Sl.ofStrs {w:World} {B c b o:Nat} {xs:List ByteArray} (hc:xs.length≤c) (hm:c≤maxLen) (hb:b<B) (hs:∀ x ∈ xs,x.size≤maxLen)
  (h:∀ (i:Nat) x,xs[i]? = some x→w.cell? ⟨b,o+i,none⟩=some (.string x)):Sl w B (some ⟨b,o,none⟩) c xs :=
 ⟨hc,hm,fun _=>⟨b,o,rfl,hb,fun i x hx=>⟨[.string x],⟨rfl,hs x (List.mem_of_getElem? hx)⟩,fun j u hu=>by
  have hj:j=0:=by
   rcases j with _ | j
   · rfl
   simp at hu
  subst hj;simp at hu
  subst hu;have:=h i x hx;simpa [Rep.size] using this⟩⟩⟩
theorem Sl.int {w:World} {B c:Nat} {A:Option Addr} {xs:List Int} (h:Sl w B A c xs) {i:Nat} (hi:i<xs.length) :
  ∃ b o,A=some ⟨b,o,none⟩∧b<B∧w.cell? ⟨b,o+i,none⟩=some (.int .i64 xs[i])∧-9223372036854775808≤xs[i]∧xs[i]≤9223372036854775807:=by
 obtain ⟨b,o,e,C,G,E,D⟩:=h.at_ hi;obtain ⟨rfl,F⟩:=E;exact ⟨b,o,e,C,by have:=D 0 _ rfl;simpa [Rep.size] using this,F⟩

theorem Sl.take {α:Type} [Rep α] {w:World} {B c n:Nat} {A:Option Addr} {xs:List α} (h:Sl w B A c xs) (hn:n≤xs.length):Sl w B A c (xs.take n):=by
 refine ⟨by rw [List.length_take];have:=h.1;omega,h.2.1,fun h0=>?_⟩;rw [List.length_take] at h0;obtain ⟨b,o,e,C,D⟩:=h.2.2 (by omega);refine ⟨b,o,e,C,fun i x hx=>D i x ?_⟩;rw [List.getElem?_take] at hx;split at hx
 · exact hx
 cases hx
theorem ba_beq (a b:ByteArray):(a.toList == b.toList)=decide (a=b):=by
 rw [Bool.eq_iff_iff];simp only [beq_iff_eq,decide_eq_true_eq];constructor
 ·
  intro h
  rw [Lib.toList_data,Lib.toList_data] at h;cases a;cases b;simp at h;rw [h]
 rintro rfl;rfl
theorem ba_ne {a b:ByteArray} (h:(!a.toList == b.toList)=true):a≠b:=by
 rintro rfl;simp at h
theorem ba_eq {a b:ByteArray} (h:(!a.toList == b.toList)=false):a=b:=by
 rw [ba_beq] at h;simpa using h
theorem take_succ_iff {α:Type} {xs ys:List α} {k:Nat} (hk:k<xs.length) (hk':k<ys.length) (h:xs.take k=ys.take k) (he:xs[k]=ys[k]):xs.take (k+1)=ys.take (k+1):=by
 rw [List.take_succ_eq_append_getElem hk,List.take_succ_eq_append_getElem hk',h,he]
theorem take_all {α:Type} {xs ys:List α} {k:Nat} (h:xs.take k=ys.take k) (hx:xs.length≤k) (hy:ys.length≤k):xs=ys:=by
 rwa [List.take_of_length_le hx,List.take_of_length_le hy] at h

theorem all_step {α:Type} {p:α→Bool} {l:List α} {k:Nat} {x:α} (h:(l.take k).all p=true) (hx:l[k]? = some x) (hp:p x=true):(l.take (k+1)).all p=true:=by
 rw [List.take_add_one,hx];simp [Option.toList,List.all_append,h,hp]
theorem all_stop {α:Type} {p:α→Bool} {l:List α} {k:Nat} {x:α} (hx:l[k]? = some x) (hp:p x=false):l.all p=false:=by
 rw [List.all_eq_false];exact ⟨x,List.mem_of_getElem? hx,by rw [hp];decide⟩
theorem all_end {α:Type} {p:α→Bool} {l:List α} {k:Nat} (h:(l.take k).all p=true) (hk:l.length≤k):l.all p=true:=by
 rwa [List.take_of_length_le hk] at h
theorem getElem_all {α:Type} {p:α→Bool} {l:List α} {k:Nat} {x:α} (h:l.all p=true) (hx:l[k]? = some x):p x=true :=
 List.all_eq_true.1 h x (List.mem_of_getElem? hx)
theorem ba_size (s:ByteArray):s.data.toList.length=s.size:=(Lib.size_eq s).symm

def idxInt {α:Type} (p:α→Bool) (xs:List α):Int:=match xs.findIdx? p with | some i=>(i:Int) | none=>-1
theorem idxInt_none {α:Type} {p:α→Bool} {l:List α} (h:l.all (fun x=>!p x)=true):idxInt p l = -1:=by
 have:l.findIdx? p=none:=by
  rw [List.findIdx?_eq_none_iff];intro x hx;have:=List.all_eq_true.1 h x hx;simpa using this
 simp [idxInt,this]
theorem idxInt_some {α:Type} {p:α→Bool} {l:List α} {k:Nat} (hk:k<l.length) (h:(l.take k).all (fun x=>!p x)=true) (hp:p l[k]=true):idxInt p l=k:=by
 have:l.findIdx? p=some k:=by
  rw [List.findIdx?_eq_some_iff_getElem];refine ⟨hk,hp,fun j hj=>?_⟩;have:=getElem_all h (k:=j) (x:=l[j]) (by rw [List.getElem?_take];simp [hj,List.getElem?_eq_getElem (show j<l.length by omega)]);simpa using this
 simp [idxInt,this]
theorem idxInt_any {α:Type} (p:α→Bool) (l:List α):decide (0≤idxInt p l)=l.any p:=by
 unfold idxInt;cases h:l.findIdx? p with
 | none =>
  rw [List.findIdx?_eq_none_iff] at h;symm
  simp only [Int.reduceNeg,Int.reduceLE,decide_false,List.any_eq_false];intro x hx;simp [h x hx]
 | some i =>
  rw [List.findIdx?_eq_some_iff_getElem] at h;obtain ⟨A,B,_⟩:=h;symm
  simp only [Int.natCast_nonneg,decide_true,List.any_eq_true];exact ⟨_,List.getElem_mem A,B⟩

theorem quiet_add_same {P:Program} {f:FuncId} {args:Array Value} {w:World} {a n:Nat} {v:Value}
  (h:Calls P f args (w.drewN (a+n)) fun e w'=>e=.returned v∧w'=w.drewN (a+n)) :
  Calls P f args (w.drewN (a+n)) fun e w''=>e=.returned v∧∃ m,w''=w.drewN (a+m) :=
 h.mono fun _ _ ⟨he,hm⟩=>⟨he,n,hm⟩
theorem ret_bool {a b:Bool} (h:a=b):Ending.returned (.bool a)=.returned (.bool b):=by rw [h]
theorem ret_str {a b:ByteArray} (h:a=b):Ending.returned (.string a)=.returned (.string b):=by rw [h]
theorem ret_int {k:IntKind} {a b:Int} (h:a=b):Ending.returned (.int k a)=.returned (.int k b):=by rw [h]

theorem below_drewN {B:Nat} {a w:World} (h:Below B a w) (n:Nat):Below B a (w.drewN n):=⟨h.os,h.tape,h.output,h.size,h.block⟩

def Blk (w:World) (g:Nat) (t:TypeId) (cs:Array Value):Prop:=w.heap[g]? = some (.cells cs t (0,0))

section
variable {w w':World} {g:Nat} {t:TypeId} {cs:Array Value}
theorem Blk.lt (h:Blk w g t cs):g<w.heap.size:=by
 rcases Nat.lt_or_ge g w.heap.size with hlt | hge
 · exact hlt
 unfold Blk at h;rw [Array.getElem?_eq_none hge] at h;cases h
theorem Blk.cell (h:Blk w g t cs) (i:Nat):w.cell? ⟨g,i,none⟩=cs[i]?:=cell_of_row w g i cs t (0,0) h
theorem Blk.frozen (h:Blk w g t cs) (i:Nat):w.frozen? ⟨g,i,none⟩=false:=by
 unfold Blk at h;simp [World.frozen?,h]
theorem Blk.new (w:World) (t:TypeId) (cs:Array Value):Blk (w.alloc (.cells cs t)) w.heap.size t cs:=heap_alloc_new w _
theorem Blk.drew (h:Blk w g t cs):Blk w.drew g t cs:=h
theorem Blk.drewN (h:Blk w g t cs) (n:Nat):Blk (w.drewN n) g t cs:=h
theorem Blk.alloc (h:Blk w g t cs) (o:Obj):Blk (w.alloc o) g t cs:=(Below.heap_alloc w o g h.lt).trans h
theorem Blk.set_ (h:Blk w g t cs) (i:Nat) (u:Value):Blk (w.setCell ⟨g,i,none⟩ u) g t (cs.setIfInBounds i u):=by
 unfold Blk at h ⊢;simp [World.setCell,Array.getElem?_modify,h]
theorem Blk.far (h:Blk w g t cs) {p:Addr} (hp:g≠p.block) (u:Value):Blk (w.setCell p u) g t cs:=(Below.heap_setCell w p u g hp).trans h
theorem Blk.below {B:Nat} (h:Blk w g t cs) (hb:Below B w w') (hg:g<B):Blk w' g t cs:=(hb.block g hg).trans h
theorem Blk.grown {row:Option Nat} (h:Blk w g t cs) (hb:w.grownBy w' row) (hg:some g≠row):Blk w' g t cs:=(hb.block g h.lt hg).trans h
theorem Blk.setRow_ (h:Blk w g t cs) (cs':Array Value):Blk (w.setRow g cs') g t cs':=setRow_heap w g cs cs' t _ h
end

theorem below_setRow {B:Nat} {a w:World} (h:Below B a w) {g:Nat} (hg:B≤g) (cs:Array Value):Below B a (w.setRow g cs) :=
 h.trans ⟨rfl,rfl,rfl,by simp,fun k hk=>setRow_other w g k cs (by omega)⟩

theorem at_dst {P:Program} {ops:Array Oper} {Q:Exit→Act→World→Prop} {rest:List Oper} {a:Act} {w:World} (d:Nat) {op:Op} {t:TypeId} {p:String} {af:Array Edge} {g:Option (Nat × Bool)}
  (h:wpList P ops Q (⟨some d,op,t,p,af,g⟩ :: rest) a w):wpList P ops Q (⟨some d,op,t,p,af,g⟩ :: rest) a w:=h
theorem at_store {P:Program} {ops:Array Oper} {Q:Exit→Act→World→Prop} {rest:List Oper} {a:Act} {w:World} (x v:Nat) {t ty:TypeId} {p:String} {af:Array Edge} {g:Option (Nat × Bool)}
  (h:wpList P ops Q (⟨none,.store ty (.tmp x) (.tmp v),t,p,af,g⟩ :: rest) a w):wpList P ops Q (⟨none,.store ty (.tmp x) (.tmp v),t,p,af,g⟩ :: rest) a w:=h

section
variable {P:Program}
theorem wp_store_blk {o:Oper} {a:Act} {w:World} {K:Act→World→Prop} {Q:Exit→Act→World→Prop} (ty:TypeId) (x v:Operand) (ho:o.op=.store ty x v)
  (g:Nat) (hx:a.eval x=.pointer (some ⟨g,0,none⟩)) (cells:Array Value) (hv:a.eval v=.agg cells) (t:TypeId) (old:Array Value) (hg:Blk w g t old)
  (hi:(P.info? ty).map (·.size)=some cells.size) (hs:old.size=cells.size) (h1:cells.all (·.oneCell')=true)
  (h:K (a.put o.dst undef) (w.setRow g cells)):o.wp P a w K Q:=by
 unfold Oper.wp execOp;simp only [ho,hx,hv,Instr.storeAt,Instr.sureAddr,Sem.run_bind,Sem.run_pure,Result.andThen_ok,run_storeVar_row w g t ty old cells hg hi hs h1];exact h

theorem wpList_load_blk {ops:Array Oper} {rest:List Oper} {o:Oper} {a:Act} {w:World} {Q:Exit→Act→World→Prop} (hgd:o.guard=none) (ty:TypeId) (x:Operand) (ho:o.op=.load ty x)
  (g:Nat) (hx:a.eval x=.pointer (some ⟨g,0,none⟩)) (t:TypeId) (cs:Array Value) (d:TypeDesc) (hg:Blk w g t cs)
  (hu:P.underlying ty=some d) (hd:(match d with | .struct _ | .array _ _=>true | _=>false)=true) (hi:(P.info? ty).map (·.size)=some cs.size)
  (h:wpList P ops Q rest (a.put o.dst (.agg cs)) w):wpList P ops Q (o :: rest) a w :=
 wpList_load_row hgd ty x ho g hx t cs (0,0) d hg hu hd hi h
theorem wpList_load_blk_w {ops:Array Oper} {rest:List Oper} {o:Oper} {a:Act} {w:World} {Q:Exit→Act→World→Prop} (hw:Region.wanted o (yielded ops a.tmps)=true) (ty:TypeId) (x:Operand) (ho:o.op=.load ty x)
  (g:Nat) (hx:a.eval x=.pointer (some ⟨g,0,none⟩)) (t:TypeId) (cs:Array Value) (d:TypeDesc) (hg:Blk w g t cs)
  (hu:P.underlying ty=some d) (hd:(match d with | .struct _ | .array _ _=>true | _=>false)=true) (hi:(P.info? ty).map (·.size)=some cs.size)
  (h:wpList P ops Q rest (a.put o.dst (.agg cs)) w):wpList P ops Q (o :: rest) a w :=
 wpList_step fun _ hK=>by rw [if_pos hw];exact wp_load_row ty x ho g hx t cs (0,0) d hg hu hd hi (hK _ _ h)
theorem results_cell_blk {fn:Func} {p:Tmp} {ty:TypeId} (h:fn.results=#[.cell p ty]) (tmps:Array Value) (w:World) (g:Nat) (t:TypeId) (cs:Array Value) (d:TypeDesc)
  (hp:tmps.getD p undef=.pointer (some ⟨g,0,none⟩)) (hg:Blk w g t cs)
  (hu:P.underlying ty=some d) (hd:(match d with | .struct _ | .array _ _=>true | _=>false)=true) (hi:(P.info? ty).map (·.size)=some cs.size) :
  (results fn tmps).run P w=.ok (.agg cs) w:=results_cell_row h tmps w g t cs (0,0) d hp hg hu hd hi

theorem wpList_store_blk {ops:Array Oper} {rest:List Oper} {o:Oper} {a:Act} {w:World} {Q:Exit→Act→World→Prop} (hgd:o.guard=none) (ty:TypeId) (x v:Operand) (ho:o.op=.store ty x v)
  (g:Nat) (hx:a.eval x=.pointer (some ⟨g,0,none⟩)) (cells:Array Value) (hv:a.eval v=.agg cells) (t:TypeId) (old:Array Value) (hg:Blk w g t old)
  (hi:(P.info? ty).map (·.size)=some cells.size) (hs:old.size=cells.size) (h1:cells.all (·.oneCell')=true)
  (h:wpList P ops Q rest (a.put o.dst undef) (w.setRow g cells)):wpList P ops Q (o :: rest) a w :=
 wpList_plain hgd fun _ hK=>wp_store_blk ty x v ho g hx cells hv t old hg hi hs h1 (hK _ _ h)
end

def ByteRow (w:World) (g:Nat) (l:List UInt8):Prop:=∀ i b,l[i]? = some b→w.cell? ⟨g,i,none⟩=some (.int .u8 (b.toNat:Int))∧w.frozen? ⟨g,i,none⟩=false

section
variable {w w':World} {g:Nat} {l:List UInt8}
theorem ByteRow.below {B:Nat} (h:ByteRow w g l) (hb:Below B w w') (hg:g<B):ByteRow w' g l:=fun i b hi =>
 ⟨(hb.cell (p:=⟨g,i,none⟩) hg).trans (h i b hi).1,(hb.frozen (p:=⟨g,i,none⟩) hg).trans (h i b hi).2⟩
theorem ByteRow.set_ (h:ByteRow w g l) {k:Nat} (hk:k<l.length) (u:UInt8):ByteRow (w.setCell ⟨g,k,none⟩ (.int .u8 (u.toNat:Int))) g (l.set k u):=by
 intro i b hi;rw [List.getElem?_set] at hi;have B:=h k l[k] (List.getElem?_eq_getElem hk);split at hi
 ·
  rename_i he
  subst he;obtain rfl:=Option.some.inj hi;exact ⟨World.cell?_setCell_same' w ⟨g,k,none⟩ _ (by rw [B.1];rfl),(World.frozen?_setCell w _ _ _).trans B.2⟩
 rename_i he
 have A:=h i b hi;refine ⟨(World.cell?_setCell_other w ⟨g,k,none⟩ ⟨g,i,none⟩ _ (fun e=>he (by injection e))).trans A.1,(World.frozen?_setCell w _ _ _).trans A.2⟩
end

section
variable {P:Program}
theorem wp_conv_bytes {o:Oper} {a:Act} {w:World} {K:Act→World→Prop} {Q:Exit→Act→World→Prop} (src dst e:TypeId) (x:Operand) (ho:o.op=.convert src dst x)
  (s:ByteArray) (hx:a.eval x=.string s) (hs:P.underlying src=some .string) (hd:P.underlying dst=some (.slice e)) (he:P.underlying e=some (.int .u8))
  (h:∀ cap w',s.size≤cap→ByteRow w' w.heap.size s.data.toList→w.heap.size<w'.heap.size→Below w.heap.size w w'→K (a.put o.dst (.slice (some ⟨w.heap.size,0,none⟩) s.size cap)) w'):o.wp P a w K Q:=by
 have F:=run_bytes_of_string (P:=P) w src dst e s hs hd he;unfold Oper.wp execOp;simp only [ho,hx,Sem.run_bind,Sem.run_pure,Result.andThen_ok,F];refine h _ _ (grownCap_ge _ _ _ _) (fun i b hi=>?_) (by simp) ?_
 ·
  have B:i<s.data.size:=by
   have:=(List.getElem?_eq_some_iff.1 hi).1;simpa using this
  have E:s.data[i]=b:=by
   have:=(List.getElem?_eq_some_iff.1 hi).2;simpa using this
  have C:=World.cell?_alloc_mark w.drew (bytesRow s (grownCap w s.size 0 e)) e ((bytesRow s (grownCap w s.size 0 e)).size,(bytesRow s (grownCap w s.size 0 e)).size+1) i;have D:=World.frozen?_alloc_mark w.drew (bytesRow s (grownCap w s.size 0 e)) e (bytesRow s (grownCap w s.size 0 e)).size ((bytesRow s (grownCap w s.size 0 e)).size+1) i;have A:=bytesRow_at s (grownCap w s.size 0 e) i B;rw [E] at A;refine ⟨C.trans A,D.trans ?_⟩;have:i<(bytesRow s (grownCap w s.size 0 e)).size:=(Array.getElem?_eq_some_iff.1 A).1;simp;omega
 exact ((Below.refl _ _).drew).alloc (Nat.le_refl _) _
theorem wpList_conv_bytes {ops:Array Oper} {rest:List Oper} {o:Oper} {a:Act} {w:World} {Q:Exit→Act→World→Prop} (hgd:o.guard=none) (src dst e:TypeId) (x:Operand) (ho:o.op=.convert src dst x)
  (s:ByteArray) (hx:a.eval x=.string s) (hs:P.underlying src=some .string) (hd:P.underlying dst=some (.slice e)) (he:P.underlying e=some (.int .u8))
  (h:∀ cap w',s.size≤cap→ByteRow w' w.heap.size s.data.toList→w.heap.size<w'.heap.size→Below w.heap.size w w'→wpList P ops Q rest (a.put o.dst (.slice (some ⟨w.heap.size,0,none⟩) s.size cap)) w'):wpList P ops Q (o :: rest) a w :=
 wpList_plain hgd fun _ hK=>wp_conv_bytes src dst e x ho s hx hs hd he fun cap w' h1 h2 h3 h4=>hK _ _ (h cap w' h1 h2 h3 h4)
theorem wp_conv_string {o:Oper} {a:Act} {w:World} {K:Act→World→Prop} {Q:Exit→Act→World→Prop} (src dst e:TypeId) (x:Operand) (ho:o.op=.convert src dst x)
  (g cap n:Nat) (l:List UInt8) (hn:l.length=n) (hx:a.eval x=.slice (some ⟨g,0,none⟩) n cap) (hl:ByteRow w g l) (hs:P.underlying src=some (.slice e)) (he:P.underlying e=some (.int .u8)) (hd:P.underlying dst=some .string)
  (h:K (a.put o.dst (.string ⟨l.toArray⟩)) w):o.wp P a w K Q:=by
 subst hn;have A:=run_convert_bytes_back (P:=P) w src dst e ⟨g,0,none⟩ cap l hs he hd (fun j hj=>by
  rw [add_mk,Nat.zero_add];exact (hl j l[j] (List.getElem?_eq_getElem hj)).1)
 unfold Oper.wp execOp;simp only [ho,hx,Sem.run_bind,Sem.run_pure,Result.andThen_ok,A];exact h
theorem wpList_conv_string {ops:Array Oper} {rest:List Oper} {o:Oper} {a:Act} {w:World} {Q:Exit→Act→World→Prop} (hgd:o.guard=none) (src dst e:TypeId) (x:Operand) (ho:o.op=.convert src dst x)
  (g cap n:Nat) (l:List UInt8) (hn:l.length=n) (hx:a.eval x=.slice (some ⟨g,0,none⟩) n cap) (hl:ByteRow w g l) (hs:P.underlying src=some (.slice e)) (he:P.underlying e=some (.int .u8)) (hd:P.underlying dst=some .string)
  (h:wpList P ops Q rest (a.put o.dst (.string ⟨l.toArray⟩)) w):wpList P ops Q (o :: rest) a w :=
 wpList_plain hgd fun _ hK=>wp_conv_string src dst e x ho g cap n l hn hx hl hs he hd (hK _ _ h)
end

theorem Sl.ofOwn {w:World} {base n:Nat} {e:TypeId} {v:Value} {xs:List ByteArray} (h:w.ownsRow base e 1 v n (xs.map Value.string)) (hs:∀ x ∈ xs,x.size≤maxLen) :
  ∃ A c,v=.slice A xs.length c∧Sl w w.heap.size A c xs:=by
 have B:xs.length=n:=by have:=h.1;simpa using this
 obtain ⟨E,C⟩:=h;rcases C with ⟨rfl,rfl⟩ | ⟨g,cap,cur,rfl,hg,hh,hnc,hcm,hcs,htk⟩
 ·
  have:xs=[]:=List.eq_nil_of_length_eq_zero B
  subst this;exact ⟨none,0,rfl,Sl.nil_⟩
 subst B;refine ⟨_,cap,rfl,Sl.ofStrs hnc hcm ?_ hs (fun i x hx=>?_)⟩
 ·
  rcases Nat.lt_or_ge g w.heap.size with hlt | hge
  · exact hlt
  rw [Array.getElem?_eq_none hge] at hh;cases hh
 rw [Nat.zero_add,cell_of_row w g i cur e (0,0) hh];have D:i<xs.length:=(List.getElem?_eq_some_iff.1 hx).1;have:=congrArg (fun l=>l[i]?) htk;simp only [Nat.mul_one,List.getElem?_take,D,if_true,List.getElem?_map,hx,Option.map_some] at this;simpa using this

class RepS (α:Type) extends Rep α where
 rdS:World→(Nat→Prop)→α→List Value→Prop
 pos:0<size
 lenS:∀ {w S a cs},rdS w S a cs→cs.length=size
 one:∀ {w S a cs},rdS w S a cs→∀ u ∈ cs,u.oneCell'=true
 mono:∀ {w w' S S' a cs},(∀ b,S b→S' b)→(∀ b o u,S b→w.cell? ⟨b,o,none⟩=some u→w'.cell? ⟨b,o,none⟩=some u)→rdS w S a cs→rdS w' S' a cs
 rd_iff:∀ {w B a cs},rd w B a cs↔rdS w (fun b=>b<B) a cs
instance:RepS ByteArray where
 rdS _ _ s cs:=cs=[.string s]∧s.size≤maxLen
 pos:=by show 0<1;omega
 lenS h:=by rw [h.1];rfl
 one h u hu:=by rw [h.1] at hu;simp at hu;subst hu;rfl
 mono _ _ h:=h
 rd_iff:=Iff.rfl
def SlS {α:Type} [RepS α] (w:World) (S:Nat→Prop) (A:Option Addr) (c:Nat) (xs:List α):Prop :=
 xs.length≤c∧c≤maxLen∧(0<xs.length→∃ b o,A=some ⟨b,o,none⟩∧S b∧
  ∀ i x,xs[i]? = some x→∃ cs,RepS.rdS w S x cs∧∀ j u,cs[j]? = some u→w.cell? ⟨b,o+(i * Rep.size α+j),none⟩=some u)
section
variable {α:Type} [RepS α] {w w':World} {S S':Nat→Prop} {A:Option Addr} {c:Nat} {xs:List α}
theorem SlS.mono (hS:∀ b,S b→S' b) (hc:∀ b o u,S b→w.cell? ⟨b,o,none⟩=some u→w'.cell? ⟨b,o,none⟩=some u) (h:SlS w S A c xs):SlS w' S' A c xs:=by
 obtain ⟨D,E,F⟩:=h;refine ⟨D,E,fun hn=>?_⟩;obtain ⟨b,o,e,B,G⟩:=F hn;refine ⟨b,o,e,hS b B,fun i x hx=>?_⟩;obtain ⟨C,H,I⟩:=G i x hx;exact ⟨C,RepS.mono hS hc H,fun j u hu=>hc _ _ _ B (I j u hu)⟩
theorem SlS.nil_:SlS w S A 0 ([]:List α):=⟨by simp,by simp [maxLen],fun h=>absurd h (by simp)⟩
theorem SlS_iff {B:Nat}:Sl w B A c xs↔SlS w (fun b=>b<B) A c xs:=by
 unfold Sl SlS;constructor
 ·
  rintro ⟨D,E,F⟩
  refine ⟨D,E,fun hn=>?_⟩;obtain ⟨b,o,e,J,G⟩:=F hn;exact ⟨b,o,e,J,fun i x hx=>by obtain ⟨C,H,I⟩:=G i x hx;exact ⟨C,RepS.rd_iff.1 H,I⟩⟩
 rintro ⟨D,E,F⟩;refine ⟨D,E,fun hn=>?_⟩;obtain ⟨b,o,e,J,G⟩:=F hn;exact ⟨b,o,e,J,fun i x hx=>by obtain ⟨C,H,I⟩:=G i x hx;exact ⟨C,RepS.rd_iff.2 H,I⟩⟩
end
def OwnsS {α:Type} [RepS α] (F:Nat→Prop) (w:World) (base:Nat) (e:TypeId) (v:Value) (xs:List α):Prop :=
 ∃ css:List (List Value),w.ownsRow base e (Rep.size α) v xs.length css.flatten∧css.length=xs.length∧
  ∀ (i:Nat) (x:α) (cs:List Value),xs[i]? = some x→css[i]? = some cs→RepS.rdS w (fun b=>F b∧b<w.heap.size∧v.ownBlock≠some b) x cs
theorem flatten_row {n:Nat} {css:List (List Value)} (h7:∀ cs ∈ css,cs.length=n):∀ {i j:Nat} {cs:List Value},css[i]? = some cs→j<n→css.flatten[i * n+j]? = cs[j]?:=by
 induction css with
 | nil=>intro i j cs h;simp at h
 | cons c r ih =>
  intro i j cs h hj;have A:=h7 c List.mem_cons_self;rw [List.flatten_cons];cases i with
  | zero =>
   simp at h;subst h
   rw [List.getElem?_append_left (by omega),show 0 * n+j=j by omega]
  | succ i =>
   rw [Nat.succ_mul,List.getElem?_append_right (by omega),show i * n+n+j - c.length=i * n+j by omega];exact ih (fun cs hcs=>h7 cs (List.mem_cons_of_mem _ hcs)) (by simpa using h) hj
section
variable {α:Type} [RepS α] {F:Nat→Prop} {w w':World} {base:Nat} {e:TypeId} {v:Value} {xs:List α}
theorem OwnsS.nil_ (F:Nat→Prop) (w:World) (base:Nat) (e:TypeId):OwnsS F w base e (.slice none 0 0) ([]:List α):=⟨[],World.ownsRow_nil _ _ _ _,rfl,fun i x cs h=>by simp at h⟩
theorem OwnsS.below (h:OwnsS F w base e v xs) (hb:Below w.heap.size w w'):OwnsS F w' base e v xs:=by
 obtain ⟨A,B,C,D⟩:=h;have E:w.grownBy w' none:=⟨hb.os,hb.tape,hb.output,hb.size,fun k hk _=>hb.block k hk⟩;refine ⟨A,B.kept E (by
  cases hv:v.ownBlock with
  | none=>exact .inl rfl
  | some k=>exact .inr (by simp)),C,fun i x cs hx hcs=>RepS.mono (fun b ⟨hf,hb1,hb2⟩=>⟨hf,by have:=hb.size;omega,hb2⟩) (fun b o u ⟨_,hb1,_⟩ hu=>(hb.cell (p:=⟨b,o,none⟩) (by exact hb1)).trans hu) (D i x cs hx hcs)⟩
theorem OwnsS.lt (h:OwnsS F w base e v xs):∀ k,v.ownBlock=some k→base≤k∧k<w.heap.size:=by
 obtain ⟨A,B,_⟩:=h;exact B.lt
theorem OwnsS.grownb {b:Nat} (h:OwnsS F w base e v xs) (hg:w.grownBy w' (some b)) (hF:∀ x,F x→x≠b) (hbase:b<base):OwnsS F w' base e v xs:=by
 obtain ⟨A,B,C,D⟩:=h;refine ⟨A,B.kept hg ?_,C,fun i x cs hx hcs=>RepS.mono (fun y ⟨hf,q1,q2⟩=>⟨hf,by have:=hg.size;omega,q2⟩) (fun y o u ⟨hf,_,_⟩ hu=>hg.cell hu (fun e=>hF y hf (Option.some.inj e))) (D i x cs hx hcs)⟩;cases hv:v.ownBlock with
 | none=>exact .inl rfl
 | some q =>
  right
  intro e;have E:=(B.lt q hv).1;have G:=Option.some.inj e;omega
theorem OwnsS.app {v':Value} {x:α} {cs:List Value} {css:List (List Value)} (h1:w.ownsRow base e (Rep.size α) v xs.length css.flatten) (h2:css.length=xs.length)
  (h3:∀ (i:Nat) (x:α) (cs:List Value),xs[i]? = some x→css[i]? = some cs→RepS.rdS w (fun b=>F b∧b<w.heap.size∧v.ownBlock≠some b) x cs)
  (hx:RepS.rdS w (fun b=>F b∧b<w.heap.size∧v.ownBlock≠some b) x cs) (hown:w'.ownsRow base e (Rep.size α) v' (xs.length+1) (css.flatten ++ cs)) (hg:w.grownBy w' v.ownBlock)
  (hnew:∀ k,v'.ownBlock=some k→v.ownBlock=some k∨w.heap.size≤k):OwnsS F w' base e v' (xs ++ [x]):=by
 have A:∀ y ds,RepS.rdS w (fun b=>F b∧b<w.heap.size∧v.ownBlock≠some b) (y:α) ds→RepS.rdS w' (fun b=>F b∧b<w'.heap.size∧v'.ownBlock≠some b) y ds:=fun y ds =>
  RepS.mono (fun b ⟨hf,hb1,hb2⟩=>⟨hf,by have:=hg.size;omega,fun e=>by
   rcases hnew b e with h | h
   · exact hb2 h
   · omega⟩) (fun b o u ⟨_,_,hb2⟩ hu=>hg.cell hu (fun e=>hb2 e.symm))
 refine ⟨css ++ [cs],by rw [List.length_append];simpa using hown,by simp [h2],fun i y ds hy hds=>?_⟩;by_cases hi:i<xs.length
 ·
  rw [List.getElem?_append_left hi] at hy
  rw [List.getElem?_append_left (by omega)] at hds;exact A y ds (h3 i y ds hy hds)
 rw [List.getElem?_append_right (by omega)] at hy hds;rw [h2] at hds;have B:i - xs.length=0:=by
  have:=(List.getElem?_eq_some_iff.1 hy).1;simp at this;omega
 rw [B] at hy hds;simp at hy hds
 subst hy;subst hds;exact A _ _ hx
theorem OwnsS.appL {v':Value} {ys:List α} {css dss:List (List Value)} (h1:w.ownsRow base e (Rep.size α) v xs.length css.flatten) (h2:css.length=xs.length)
  (h3:∀ (i:Nat) (x:α) (cs:List Value),xs[i]? = some x→css[i]? = some cs→RepS.rdS w (fun b=>F b∧b<w.heap.size∧v.ownBlock≠some b) x cs)
  (h4:dss.length=ys.length) (h5:∀ (i:Nat) (y:α) (cs:List Value),ys[i]? = some y→dss[i]? = some cs→RepS.rdS w (fun b=>F b∧b<w.heap.size∧v.ownBlock≠some b) y cs)
  (hown:w'.ownsRow base e (Rep.size α) v' (xs.length+ys.length) (css.flatten ++ dss.flatten)) (hg:w.grownBy w' v.ownBlock)
  (hnew:∀ k,v'.ownBlock=some k→v.ownBlock=some k∨w.heap.size≤k):OwnsS F w' base e v' (xs ++ ys):=by
 have A:∀ y ds,RepS.rdS w (fun b=>F b∧b<w.heap.size∧v.ownBlock≠some b) (y:α) ds→RepS.rdS w' (fun b=>F b∧b<w'.heap.size∧v'.ownBlock≠some b) y ds:=fun y ds =>
  RepS.mono (fun b ⟨hf,hb1,hb2⟩=>⟨hf,by have:=hg.size;omega,fun e=>by
   rcases hnew b e with h | h
   · exact hb2 h
   · omega⟩) (fun b o u ⟨_,_,hb2⟩ hu=>hg.cell hu (fun e=>hb2 e.symm))
 refine ⟨css ++ dss,by rw [List.length_append];simpa using hown,by simp [h2,h4],fun i y ds hy hds=>?_⟩;by_cases hi:i<xs.length
 ·
  rw [List.getElem?_append_left hi] at hy
  rw [List.getElem?_append_left (by omega)] at hds;exact A y ds (h3 i y ds hy hds)
 rw [List.getElem?_append_right (by omega)] at hy hds;rw [h2] at hds;exact A y ds (h5 _ y ds hy hds)
theorem OwnsS.cs (h:OwnsS F w base e v xs):∃ A c,v=.slice A xs.length c∧SlS w (fun b=>(F b∨base≤b)∧b<w.heap.size) A c xs:=by
 obtain ⟨B,J,N,I⟩:=h;have L:∀ cs ∈ B,cs.length=Rep.size α:=fun cs hcs=>by
  obtain ⟨i,G,rfl⟩:=List.getElem_of_mem hcs;exact RepS.lenS (I i xs[i] B[i] (List.getElem?_eq_getElem (by omega)) (List.getElem?_eq_getElem G))
 obtain ⟨_,K⟩:=J;rcases K with ⟨rfl,h0⟩ | ⟨g,cap,cur,rfl,hg,hh,hnc,hcm,hcs,htk⟩
 ·
  have:xs=[]:=List.eq_nil_of_length_eq_zero h0
  subst this;exact ⟨none,0,rfl,SlS.nil_⟩
 have E:g<w.heap.size:=(Array.getElem?_eq_some_iff.1 hh).1;refine ⟨_,cap,rfl,hnc,hcm,fun _=>⟨g,0,rfl,⟨.inr hg,E⟩,fun i x hx=>?_⟩⟩;have G:i<xs.length:=(List.getElem?_eq_some_iff.1 hx).1;have C:B[i]? = some B[i]:=List.getElem?_eq_getElem (by omega);have D:=I i x B[i] hx C;refine ⟨B[i],RepS.mono (fun b ⟨hf,hb1,_⟩=>⟨.inl hf,hb1⟩) (fun _ _ _ _ hu=>hu) D,fun j u hu=>?_⟩;have M:j<Rep.size α:=by
  have:=(List.getElem?_eq_some_iff.1 hu).1;rw [RepS.lenS D] at this;exact this
 rw [Nat.zero_add,cell_of_row w g (i * Rep.size α+j) cur e (0,0) hh];have:=flatten_row L C M;have H:i * Rep.size α+j<xs.length * Rep.size α:=by
  have:=Nat.mul_le_mul_right (Rep.size α) (show i+1≤xs.length from G);rw [Nat.succ_mul] at this;omega
 rw [← htk,List.getElem?_take,if_pos H,hu] at this;simpa using this
theorem OwnsS.sl (h:OwnsS F w base e v xs):∃ A c,v=.slice A xs.length c∧Sl w w.heap.size A c xs:=by
 obtain ⟨A,c,C,B⟩:=h.cs;exact ⟨A,c,C,SlS_iff.2 (B.mono (fun b hb=>hb.2) (fun _ _ _ _ hu=>hu))⟩
end

def okI (n:Int):Prop:=-9223372036854775808≤n∧n≤9223372036854775807
structure Attr where
 name:ByteArray
 value:ByteArray
def attrCells (a:Attr):List Value:=[.string a.name,.string a.value]
instance:RepS Attr where
 size:=2
 rd _ _ a cs:=cs=attrCells a∧a.name.size≤maxLen∧a.value.size≤maxLen
 len h:=by rw [h.1];rfl
 keep _ h:=h
 more _ h:=h
 rdS _ _ a cs:=cs=attrCells a∧a.name.size≤maxLen∧a.value.size≤maxLen
 pos:=by show 0<2;omega
 lenS h:=by rw [h.1];rfl
 one h u hu:=by rw [h.1] at hu;simp [attrCells] at hu;rcases hu with rfl | rfl <;> rfl
 mono _ _ h:=h
 rd_iff:=Iff.rfl
structure Dev where
 idx:Int
 par:Int
 nm:ByteArray
 orig:ByteArray
 sub:ByteArray
 drv:ByteArray
 ali:ByteArray
 kind:Int
 num:Int
 attrs:List Attr
def devCells (d:Dev) (A:Option Addr) (c:Nat):List Value :=
 [.int .i64 d.idx,.int .i64 d.par,.string d.nm,.string d.orig,.string d.sub,.string d.drv,.string d.ali,.int .i64 d.kind,.int .i64 d.num,.slice A d.attrs.length c]
def devOk (d:Dev):Prop:=okI d.idx∧okI d.par∧d.nm.size≤maxLen∧d.orig.size≤maxLen∧d.sub.size≤maxLen∧d.drv.size≤maxLen∧d.ali.size≤maxLen∧okI d.kind∧okI d.num
def DRdS (w:World) (S:Nat→Prop) (d:Dev) (cs:List Value):Prop:=∃ A c,cs=devCells d A c∧devOk d∧SlS w S A c d.attrs
def DRd (w:World) (B:Nat) (d:Dev) (cs:List Value):Prop:=DRdS w (fun b=>b<B) d cs
theorem DRdS.mono {w w':World} {S S':Nat→Prop} {d:Dev} {cs:List Value} (hS:∀ b,S b→S' b) (hc:∀ b o u,S b→w.cell? ⟨b,o,none⟩=some u→w'.cell? ⟨b,o,none⟩=some u) (h:DRdS w S d cs):DRdS w' S' d cs:=by
 obtain ⟨A,c,B,C,D⟩:=h;exact ⟨A,c,B,C,D.mono hS hc⟩
instance:RepS Dev where
 size:=10
 rd:=DRd
 len h:=by obtain ⟨A,c,rfl,_⟩:=h;rfl
 keep hb h:=DRdS.mono (fun _ h=>h) (fun b o u hlt hu=>(hb.cell (p:=⟨b,o,none⟩) (by exact hlt)).trans hu) h
 more hB h:=DRdS.mono (fun b (h:b<_)=>(by omega:b<_)) (fun _ _ _ _ hu=>hu) h
 rdS:=DRdS
 pos:=by show 0<10;omega
 lenS h:=by obtain ⟨A,c,rfl,_⟩:=h;rfl
 one h u hu:=by
  obtain ⟨A,c,rfl,_⟩:=h;simp only [devCells,List.mem_cons,List.not_mem_nil,or_false] at hu;rcases hu with rfl | rfl | rfl | rfl | rfl | rfl | rfl | rfl | rfl | rfl <;> rfl
 mono:=DRdS.mono
 rd_iff:=Iff.rfl
theorem DRd_iff {w:World} {B:Nat} {d:Dev} {cs:List Value}:DRd w B d cs↔∃ A c,cs=devCells d A c∧devOk d∧Sl w B A c d.attrs:=by
 unfold DRd DRdS;simp only [SlS_iff]

def upperL:List UInt8:=[65,66,67,68,69,70,71,72,73,74,75,76,77,78,79,80,81,82,83,84,85,86,87,88,89,90]
def lowerL:List UInt8:=[97,98,99,100,101,102,103,104,105,106,107,108,109,110,111,112,113,114,115,116,117,118,119,120,121,122]
def digitL:List UInt8:=[48,49,50,51,52,53,54,55,56,57]
def commonL:List UInt8:=upperL ++ lowerL ++ digitL ++ [95,46,58,43,45]
def inB (S:List UInt8) (s:ByteArray):Bool:=s.data.toList.all S.contains
def dotsB (s:ByteArray):Bool:=s.toList == [46] || s.toList == [46,46]
def printP (b:UInt8):Bool:=decide (32≤b.toNat) && decide (b.toNat≤126)
def printB (s:ByteArray):Bool:=s.data.toList.all printP
def textB (s:ByteArray):Bool:=printB s && decide (s.size≤256)
theorem textB_no {s:ByteArray} (h:printB s=false):false=textB s:=by rw [textB,h];rfl
theorem textB_yes {s:ByteArray} (h:printB s=true):decide ((s.size:Int)≤256)=textB s:=by
 rw [textB,h,Bool.true_and];exact decide_eq_decide.2 (by omega)

theorem ba_ext {a b:ByteArray} (h:a.data.toList=b.data.toList):a=b:=WideShapes.bytes_inj h
def nameL:List UInt8:=commonL ++ [33]
def validB (s:ByteArray):Bool:=!s.toList.isEmpty && (decide ((s.size:Int)≤32) && (!dotsB s && inB nameL s))
def keyL:List UInt8:=upperL ++ digitL ++ [95]
def keyB (s:ByteArray):Bool:=!s.toList.isEmpty && (decide ((s.size:Int)≤32) && (inB upperL (s.extract 0 1) && inB keyL s))
def ifaceB (s:ByteArray):Bool:=validB s && (decide ((s.size:Int)≤15) && (!s.data.toList.contains 58 && !s.data.toList.contains 33))
def belowB (a b:ByteArray):Bool:=(a.data.toList ++ [47]).isPrefixOf b.data.toList

theorem indexAny_iff (chars:List UInt8):∀ l:List UInt8,0≤Lib.indexAny l chars↔l.any chars.contains=true
 | []=>by simp [Lib.indexAny]
 | b :: l=>by
  have ih:=indexAny_iff chars l;have hge:=Lib.indexAny_ge chars l;have e:Lib.indexAny (b :: l) chars=if chars.contains b then 0 else if Lib.indexAny l chars == -1 then -1 else Lib.indexAny l chars+1:=rfl
  rw [List.any_cons,Bool.or_eq_true,← ih,e];clear e;by_cases hb:chars.contains b=true
  · rw [if_pos hb];exact ⟨fun _=>.inl hb,fun _=>by omega⟩
  rw [if_neg hb];by_cases hn:Lib.indexAny l chars = -1
  · rw [hn];simpa using hb
  rw [if_neg (by simpa using hn)];constructor
  · intro _;right;omega
  intro _;omega
theorem indexAny_any (chars l:List UInt8):decide (0≤Lib.indexAny l chars)=l.any chars.contains:=by
 rw [Bool.eq_iff_iff,decide_eq_true_eq];exact indexAny_iff chars l
theorem name_ascii {s:ByteArray} (h:validB s=true) (j:Nat) (b:UInt8) (hj:s.data.toList[j]? = some b):b.toNat<128:=by
 unfold validB at h;simp only [Bool.and_eq_true] at h;have A:=getElem_all h.2.2.2 hj;exact of_decide_eq_true (List.all_eq_true.1 (by decide:nameL.all (fun b=>decide (b.toNat<128))=true) b (List.contains_iff_mem.1 A))
theorem iface_any (l:List UInt8):(!l.any [58,33].contains)=(!l.contains 58 && !l.contains 33):=by
 induction l with
 | nil=>rfl
 | cons b l ih =>
  simp only [List.any_cons,List.contains_cons,Bool.not_or,ih];simp only [List.contains_nil,Bool.or_false,Bool.not_or];have A:(b == 58)=((58:UInt8) == b):=by rw [Bool.eq_iff_iff,beq_iff_eq,beq_iff_eq];exact ⟨Eq.symm,Eq.symm⟩
  have B:(b == 33)=((33:UInt8) == b):=by rw [Bool.eq_iff_iff,beq_iff_eq,beq_iff_eq];exact ⟨Eq.symm,Eq.symm⟩
  rw [A,B];cases ((58:UInt8) == b) <;> cases ((33:UInt8) == b) <;> simp

/-! ### Splitting at a byte -/
def splitOn (c:UInt8):List UInt8→List (List UInt8)
 | []=>[[]]
 | b :: l=>if b=c then [] :: splitOn c l else match splitOn c l with
  | []=>[[b]]
  | x :: r=>(b :: x) :: r
theorem splitOn_ne (c:UInt8) (l:List UInt8):splitOn c l≠[]:=by
 cases l with
 | nil=>simp [splitOn]
 | cons b l =>
  unfold splitOn;split
  · simp
  split <;> simp
theorem split_eq (c:UInt8):∀ l:List UInt8,Lib.split l [c]=splitOn c l
 | []=>by
  have h0:Lib.count [] [c]=0:=Lib.count_miss (by rw [Lib.index_one];rfl);show Lib.splitK [c] 0 (Lib.count [] [c]) []=_
  rw [h0];rfl
 | b :: l=>by
  have ih:=split_eq c l;unfold Lib.split at ih ⊢;by_cases hb:b=c
  ·
   subst hb
   have hi:Lib.index (b :: l) [b]=0:=by rw [Lib.index_one];simp [Lib.indexByte]
   rw [Lib.count_cons_eq,Nat.add_comm];unfold Lib.splitK;rw [if_neg (by rw [hi];decide),hi,splitOn,if_pos rfl,← ih];rfl
  rw [Lib.count_cons_ne b c l hb,splitOn,if_neg hb,← ih];have hi:Lib.index (b :: l) [c]=if Lib.index l [c] == -1 then -1 else Lib.index l [c]+1:=by
   rw [Lib.index_one,Lib.index_one];have:(b == c)=false:=by simpa using hb
   simp [Lib.indexByte,this]
  cases hk:Lib.count l [c] with
  | zero=>rfl
  | succ k =>
   have E:=Lib.index_ge l [c];have B:Lib.index l [c]≠-1:=fun e=>by rw [Lib.count_miss e] at hk;omega
   obtain ⟨i,A⟩:=Int.eq_ofNat_of_zero_le (show 0≤Lib.index l [c] by omega);have C:(Lib.index l [c] == -1)=false:=by simpa using B
   rw [C] at hi;simp only [Bool.false_eq_true,if_false] at hi;unfold Lib.splitK;rw [if_neg (by rw [hi];simp;omega),if_neg (by rw [C];decide),hi,A];have D:((i:Int)+1).toNat=i+1:=by omega
   simp only [D,Int.toNat_natCast,Nat.add_zero,List.take_succ_cons,List.length_cons,List.length_nil,Nat.zero_add,List.drop_succ_cons]

def toB (l:List UInt8):ByteArray:=⟨l.toArray⟩
theorem toB_data (l:List UInt8):(toB l).data.toList=l:=rfl
theorem toB_size (l:List UInt8):(toB l).size=l.length:=rfl
theorem data_toB (s:ByteArray):toB s.data.toList=s:=Lib.mk_data s
def piecesL (l:List UInt8):List ByteArray:=(splitOn 47 l).map toB
theorem splitB_eq (s sep:ByteArray) (h:sep.data.toList=[47]):Lib.splitB sep 0 (Lib.countB s sep) s=piecesL s.data.toList:=by
 have A:=Lib.splitB_data sep 0 (Lib.countB s sep) s;rw [h] at A;unfold piecesL;rw [← split_eq,Lib.split];have B:Lib.countB s sep=Lib.count s.data.toList [47]:=by unfold Lib.countB;rw [h]
 rw [B] at A ⊢;rw [← A,List.map_map];conv=>lhs;rw [← List.map_id (Lib.splitB sep 0 (Lib.count s.data.toList [47]) s)]
 apply List.map_congr_left
 intro x _;exact (data_toB x).symm
theorem pieces_length (s sep:ByteArray) (h:sep.data.toList=[47]):Lib.countB s sep+1=(piecesL s.data.toList).length:=by
 rw [← splitB_eq s sep h,Lib.splitB_all sep (by rw [Lib.size_eq,h];decide) 0 _ s rfl]
theorem splitOn_sizes (c:UInt8):∀ (l:List UInt8) (x:List UInt8),x ∈ splitOn c l→x.length≤l.length
 | [],x,h=>by simp [splitOn] at h;subst h;simp
 | b :: l,x,h=>by
  have ih:=splitOn_sizes c l;unfold splitOn at h;split at h
  ·
   simp only [List.mem_cons] at h
   rcases h with rfl | h
   · simp
   have:=ih x h;simp;omega
  cases hs:splitOn c l with
  | nil=>exact absurd hs (splitOn_ne c l)
  | cons y r =>
   rw [hs] at h ih;simp only [List.mem_cons] at h;rcases h with rfl | h
   · have:=ih y (by simp);simp;omega
   have:=ih x (by simp [h]);simp;omega
theorem pieces_sizes {l:List UInt8} {x:ByteArray} (h:x ∈ piecesL l):x.size≤l.length:=by
 unfold piecesL at h;rw [List.mem_map] at h;obtain ⟨y,A,rfl⟩:=h;rw [toB_size];exact splitOn_sizes 47 l y A
theorem splitOn_count (c:UInt8):∀ l:List UInt8,(splitOn c l).length≤l.length+1
 | []=>by simp [splitOn]
 | b :: l=>by
  have ih:=splitOn_count c l;unfold splitOn;split
  · simp;omega
  cases hs:splitOn c l with
  | nil=>exact absurd hs (splitOn_ne c l)
  | cons y r=>rw [hs] at ih;simp at ih ⊢;omega

def cmpB (a b:ByteArray):Int:=Lib.compareBytes a.data.toList b.data.toList
theorem compare_less:∀ x y:List UInt8,Lib.compareBytes x y=if Op.bytesLess x y then -1 else if x=y then 0 else 1
 | [],[]=>rfl
 | [],_ :: _=>rfl
 | _ :: _,[]=>rfl
 | a :: x,b :: y=>by
  have ih:=compare_less x y;unfold Lib.compareBytes Op.bytesLess;by_cases h1:a<b
  · simp [h1]
  by_cases h2:b<a
  ·
   have hne:¬ a=b:=by rintro rfl;exact UInt8.lt_irrefl _ h2
   have A:(a == b)=false:=by simpa using hne
   simp [h1,h2,A,hne]
  have B:a=b:=UInt8.le_antisymm (UInt8.not_lt.1 h2) (UInt8.not_lt.1 h1);subst B;simp [ih]
theorem cmpB_less {a b:ByteArray} (h:Op.bytesLess a.toList b.toList=true):cmpB a b = -1:=by
 rw [Lib.toList_data,Lib.toList_data] at h;rw [cmpB,compare_less,if_pos h]
theorem cmpB_eq {a b:ByteArray} (h:a=b):cmpB a b=0:=by
 subst h;rw [cmpB,compare_less];have A:∀ x:List UInt8,Op.bytesLess x x=false:=by
  intro x;induction x with
  | nil=>rfl
  | cons a x ih=>unfold Op.bytesLess;simp [ih]
 rw [A];simp
theorem cmpB_more {a b:ByteArray} (h:Op.bytesLess a.toList b.toList=false) (hne:a≠b):cmpB a b=1:=by
 rw [Lib.toList_data,Lib.toList_data] at h;rw [cmpB,compare_less,h,if_neg (by decide),if_neg (fun e=>hne (ba_ext e))]
theorem cmpB_cases (a b:ByteArray):cmpB a b = -1∨cmpB a b=0∨cmpB a b=1:=by
 rw [cmpB,compare_less];split
 · simp
 split <;> simp
theorem cmpB_zero {a b:ByteArray} (h:cmpB a b=0):a=b:=by
 by_cases he:a=b
 · exact he
 exfalso
 cases hl:Op.bytesLess a.toList b.toList with
 | true=>rw [cmpB_less hl] at h;cases h
 | false=>rw [cmpB_more hl he] at h;cases h
theorem cmpB_ne {a b:ByteArray} (h:a≠b):cmpB a b≠0:=fun e=>h (cmpB_zero e)

def cmpL:List ByteArray→List ByteArray→Int
 | [],[]=>0
 | [],_ :: _=>-1
 | _ :: _,[]=>1
 | x :: xs,y :: ys=>if cmpB x y=0 then cmpL xs ys else cmpB x y
theorem cmpL_prefix:∀ (p xs ys:List ByteArray),cmpL (p ++ xs) (p ++ ys)=cmpL xs ys
 | [],_,_=>rfl
 | z :: p,xs,ys=>by
  show cmpL (z :: (p ++ xs)) (z :: (p ++ ys))=_
  rw [cmpL,if_pos (cmpB_eq rfl)];exact cmpL_prefix p xs ys
theorem cmpL_from {xs ys:List ByteArray} {k:Nat} (h:xs.take k=ys.take k):cmpL xs ys=cmpL (xs.drop k) (ys.drop k):=by
 conv=>lhs;rw [← List.take_append_drop k xs,← List.take_append_drop k ys,h]
 exact cmpL_prefix _ _ _
theorem cmpL_diff {xs ys:List ByteArray} {k:Nat} (h:xs.take k=ys.take k) (hx:k<xs.length) (hy:k<ys.length) (hne:xs[k]≠ys[k]):cmpL xs ys=cmpB xs[k] ys[k]:=by
 rw [cmpL_from h,List.drop_eq_getElem_cons hx,List.drop_eq_getElem_cons hy,cmpL,if_neg (cmpB_ne hne)]
theorem cmpL_less {xs ys:List ByteArray} {k:Nat} (h:xs.take k=ys.take k) (hx:xs.length≤k) (hl:xs.length<ys.length):cmpL xs ys = -1:=by
 have h':xs.take xs.length=ys.take xs.length:=by
  have:=congrArg (List.take xs.length) h;rwa [List.take_take,List.take_take,Nat.min_eq_left hx] at this
 rw [cmpL_from h',List.drop_eq_nil_of_le (Nat.le_refl _),List.drop_eq_getElem_cons hl,cmpL]
theorem cmpL_more {xs ys:List ByteArray} {k:Nat} (h:xs.take k=ys.take k) (hy:ys.length≤k) (hl:ys.length<xs.length):cmpL xs ys=1:=by
 have h':xs.take ys.length=ys.take ys.length:=by
  have:=congrArg (List.take ys.length) h;rwa [List.take_take,List.take_take,Nat.min_eq_left hy] at this
 rw [cmpL_from h',List.drop_eq_nil_of_le (as:=ys) (Nat.le_refl _),List.drop_eq_getElem_cons hl,cmpL]
theorem cmpL_same {xs ys:List ByteArray} (h:xs=ys):cmpL xs ys=0:=by
 subst h;induction xs with
 | nil=>rfl
 | cons x xs ih=>rw [cmpL,if_pos (cmpB_eq rfl),ih]
theorem cmpL_zero:∀ {xs ys:List ByteArray},cmpL xs ys=0→xs=ys
 | [],[],_=>rfl
 | [],_ :: _,h=>by cases h
 | _ :: _,[],h=>by cases h
 | x :: xs,y :: ys,h=>by
  rw [cmpL] at h;split at h
  ·
   rename_i h0
   rw [cmpB_zero h0,cmpL_zero h]
  rename_i h0
  exact absurd h h0
def joinB (xs:List ByteArray):ByteArray:=toB (Lib.join (xs.map (·.data.toList)) [47])
theorem slash_app (j:ByteArray):(⟨#[47]⟩ ++ j:ByteArray)=toB (47 :: j.data.toList):=by
 apply ba_ext
 rw [toB_data,ByteArray.data_append];simp

def partL:List UInt8:=commonL ++ [64,35,61,37]
def compB (s:ByteArray):Bool:=!s.toList.isEmpty && (!dotsB s && inB partL s)
def linkB (s:ByteArray):Bool:=decide ((s.size:Int)≤256) && (piecesL s.data.toList).all compB

theorem splitOn_all (c:UInt8) (p:UInt8→Bool):∀ l:List UInt8,l.all (fun b=>p b || b == c)=true→∀ x ∈ splitOn c l,x.all (fun b=>p b && !(b == c))=true
 | [],_,x,hx=>by simp [splitOn] at hx;subst hx;rfl
 | b :: l,h,x,hx=>by
  rw [List.all_cons,Bool.and_eq_true] at h;have ih:=splitOn_all c p l h.2;unfold splitOn at hx;split at hx
  ·
   simp only [List.mem_cons] at hx
   rcases hx with rfl | hx
   · rfl
   exact ih x hx
  rename_i hb
  cases hs:splitOn c l with
  | nil=>exact absurd hs (splitOn_ne c l)
  | cons y r =>
   rw [hs] at hx ih;simp only [List.mem_cons] at hx;rcases hx with rfl | hx
   ·
    rw [List.all_cons,ih y (by simp),Bool.and_true]
    have h1:=h.1;simp [hb] at h1 ⊢
    exact h1
   exact ih x (by simp [hx])

structure Total {α:Type} (f:α→α→Int):Prop where
 zero:∀ a b,f a b=0↔a=b
 anti:∀ a b,f b a = - f a b
 lt:∀ a b c,f a b<0→f b c<0→f a c<0
def cmpG {α:Type} (f:α→α→Int):List α→List α→Int
 | [],[]=>0
 | [],_ :: _=>-1
 | _ :: _,[]=>1
 | x :: xs,y :: ys=>if f x y=0 then cmpG f xs ys else f x y
theorem cmpG_zero {α:Type} {f:α→α→Int} (h:Total f):∀ xs ys,cmpG f xs ys=0↔xs=ys
 | [],[]=>by simp [cmpG]
 | [],_ :: _=>by simp [cmpG]
 | _ :: _,[]=>by simp [cmpG]
 | x :: xs,y :: ys=>by
  rw [cmpG];split
  ·
   rename_i h0
   rw [(h.zero _ _).1 h0,cmpG_zero h xs ys];simp
  rename_i h0
  have:¬ x=y:=fun e=>h0 ((h.zero _ _).2 e)
  simp [this,h0]
theorem cmpG_anti {α:Type} {f:α→α→Int} (h:Total f):∀ xs ys,cmpG f ys xs = - cmpG f xs ys
 | [],[]=>by simp [cmpG]
 | [],_ :: _=>by simp [cmpG]
 | _ :: _,[]=>by simp [cmpG]
 | x :: xs,y :: ys=>by
  rw [cmpG,cmpG,h.anti x y,cmpG_anti h xs ys];by_cases h0:f x y=0
  · rw [if_pos h0,if_pos (by omega)]
  rw [if_neg h0,if_neg (by omega)]
theorem cmpG_lt {α:Type} {f:α→α→Int} (h:Total f):∀ xs ys zs,cmpG f xs ys<0→cmpG f ys zs<0→cmpG f xs zs<0
 | _,[],[],_,h2=>by simp [cmpG] at h2
 | [],_,_ :: _,_,_=>by simp [cmpG]
 | [],_ :: _,[],_,h2=>by simp [cmpG] at h2
 | _ :: _,[],_,h1,_=>by simp [cmpG] at h1
 | _ :: _,_ :: _,[],_,h2=>by simp [cmpG] at h2
 | x :: xs,y :: ys,z :: zs,h1,h2=>by
  have ih:=cmpG_lt h xs ys zs;rw [cmpG] at h1 h2 ⊢;by_cases hxy:f x y=0
  ·
   rw [if_pos hxy] at h1
   obtain rfl:=(h.zero _ _).1 hxy;by_cases hyz:f x z=0
   ·
    rw [if_pos hyz] at h2 ⊢
    exact ih h1 h2
   rw [if_neg hyz] at h2 ⊢;exact h2
  rw [if_neg hxy] at h1;by_cases hyz:f y z=0
  ·
   obtain rfl:=(h.zero _ _).1 hyz
   rw [if_neg hxy];exact h1
  rw [if_neg hyz] at h2;have:=h.lt _ _ _ h1 h2;rw [if_neg (by omega)];exact this
theorem Total.list {α:Type} {f:α→α→Int} (h:Total f):Total (cmpG f):=⟨cmpG_zero h,cmpG_anti h,cmpG_lt h⟩
def byteC (a b:UInt8):Int:=if a<b then -1 else if b<a then 1 else 0
theorem byteC_total:Total byteC where
 zero a b:=by
  unfold byteC;constructor
  ·
   intro h
   split at h
   · cases h
   split at h
   · cases h
   exact UInt8.le_antisymm (UInt8.not_lt.1 (by assumption)) (UInt8.not_lt.1 (by assumption))
  rintro rfl;rw [if_neg (UInt8.lt_irrefl _),if_neg (UInt8.lt_irrefl _)]
 anti a b:=by
  unfold byteC;by_cases h1:a<b
  ·
   have h2:¬ b<a:=fun h=>UInt8.lt_irrefl _ (UInt8.lt_trans h1 h)
   rw [if_neg h2,if_pos h1,if_pos h1];rfl
  by_cases h2:b<a
  · rw [if_pos h2,if_neg h1,if_pos h2]
  rw [if_neg h2,if_neg h1,if_neg h1,if_neg h2];rfl
 lt a b c h1 h2:=by
  have e:∀ x y:UInt8,byteC x y<0→x<y:=by
   intro x y h;unfold byteC at h;split at h
   · assumption
   split at h <;> simp at h
  have:=UInt8.lt_trans (e _ _ h1) (e _ _ h2);unfold byteC;rw [if_pos this];decide
theorem compareBytes_G:∀ x y:List UInt8,Lib.compareBytes x y=cmpG byteC x y
 | [],[]=>rfl
 | [],_ :: _=>rfl
 | _ :: _,[]=>rfl
 | a :: x,b :: y=>by
  have ih:=compareBytes_G x y;unfold Lib.compareBytes;rw [cmpG];by_cases h1:a<b
  · simp [h1,byteC]
  by_cases h2:b<a
  ·
   have hne:¬ a=b:=by rintro rfl;exact UInt8.lt_irrefl _ h2
   simp [h1,h2,byteC,hne]
  have A:a=b:=UInt8.le_antisymm (UInt8.not_lt.1 h2) (UInt8.not_lt.1 h1);subst A;rw [if_pos ((byteC_total.zero _ _).2 rfl)];simp [ih]
theorem cmpB_total:Total cmpB where
 zero a b:=⟨cmpB_zero,cmpB_eq⟩
 anti a b:=by unfold cmpB;rw [compareBytes_G,compareBytes_G];exact byteC_total.list.anti _ _
 lt a b c h1 h2:=by
  unfold cmpB at *;rw [compareBytes_G] at *;exact byteC_total.list.lt _ _ _ h1 h2
theorem cmpL_G:∀ xs ys:List ByteArray,cmpL xs ys=cmpG cmpB xs ys
 | [],[]=>rfl
 | [],_ :: _=>rfl
 | _ :: _,[]=>rfl
 | x :: xs,y :: ys=>by rw [cmpL,cmpG,cmpL_G xs ys]
theorem cmpL_total:Total cmpL where
 zero a b:=⟨cmpL_zero,cmpL_same⟩
 anti a b:=by rw [cmpL_G,cmpL_G];exact cmpB_total.list.anti _ _
 lt a b c h1 h2:=by
  rw [cmpL_G] at *;exact cmpB_total.list.lt _ _ _ h1 h2
theorem between:∀ (xs ys t:List ByteArray),cmpL xs ys<0→cmpL ys (xs ++ t)≤0→xs.length<ys.length∧ys.take xs.length=xs
 | [],[],_,h,_=>by simp [cmpL] at h
 | [],_ :: _,_,_,_=>by simp
 | _ :: _,[],_,h,_=>by simp [cmpL] at h
 | x :: xs,y :: ys,t,h1,h2=>by
  rw [List.cons_append] at h2;rw [cmpL] at h1 h2;by_cases h0:cmpB x y=0
  ·
   rw [if_pos h0] at h1
   obtain rfl:=cmpB_zero h0;rw [if_pos h0] at h2;have ih:=between xs ys t h1 h2;simp [ih.1,ih.2]
  rw [if_neg h0] at h1;have ha:=cmpB_total.anti x y;rw [if_neg (by omega)] at h2;omega

instance:DecidableEq ByteArray:=inferInstance
def nodeS (s:ByteArray):ByteArray:=⟨(s.data.toList.map fun b=>if b=33 then 47 else b).toArray⟩
def nodeD (d:Dev):Option ByteArray:=if d.kind=2∨d.kind=3 then some (nodeS d.orig) else none
def strLt (a b:ByteArray):Bool:=Op.bytesLess a.toList b.toList
def sortedA:List Attr→Bool
 | []=>true
 | [_]=>true
 | a :: b :: r=>strLt a.name b.name && sortedA (b :: r)
def attrB (a:Attr):Bool:=validB a.name && textB a.value && !a.value.toList.isEmpty
def checkD (d:Dev):Int :=
 if d.idx<1∨1073741824<d.idx∨d.par<0∨1073741824<d.par∨d.par=d.idx then 32
 else if validB d.nm && validB d.orig && validB d.sub && (d.drv.toList.isEmpty || validB d.drv) && textB d.ali then
  if d.kind<1∨4<d.kind then 31
  else if (d.kind=4∧(ifaceB d.nm && ifaceB d.orig)=false)∨(d.kind≠4∧d.nm≠d.orig) then 31
  else if ((nodeD d).isSome=true∧(d.num<1∨1073741824<d.num))∨((nodeD d).isSome=false∧d.num≠0) then 32
  else if 24<d.attrs.length then 34
  else if d.attrs.all attrB && sortedA d.attrs then
   match nodeD d with
   | some s=>if linkB s then 0 else 30
   | none=>0
  else 33
 else 30
def clashB (a b:Dev):Bool:=(decide (a.kind=4) && (decide (b.kind=4) && decide (a.nm=b.nm))) ||
 (match nodeD a,nodeD b with
 | some s,some u=>(decide (a.kind=b.kind) && decide (a.num=b.num)) || (decide (s=u) || (belowB s u || belowB u s))
 | _,_=>false)
theorem check_range {d:Dev} (h:checkD d=0):1≤d.idx∧d.idx≤1073741824∧0≤d.par∧d.par≤1073741824∧d.par≠d.idx:=by
 unfold checkD at h;split at h
 · cases h
 rename_i hn;omega
theorem check_names {d:Dev} (h:checkD d=0):validB d.nm=true∧validB d.orig=true∧validB d.sub=true∧(d.drv.toList.isEmpty || validB d.drv)=true∧textB d.ali=true:=by
 unfold checkD at h;split at h
 · cases h
 split at h
 ·
  rename_i hv
  simp only [Bool.and_eq_true] at hv;exact ⟨hv.1.1.1.1,hv.1.1.1.2,hv.1.1.2,hv.1.2,hv.2⟩
 cases h
def parA (seen:List Int):List Dev→Prop
 | []=>True
 | d :: r=>(d.par=0∨d.par ∈ seen)∧parA (d.idx :: seen) r
def idxs (L:List Dev):List Int:=L.map (·.idx)
theorem parA_mono:∀ {L:List Dev} {s s':List Int},(∀ x ∈ s,x ∈ s')→parA s L→parA s' L
 | [],_,_,_,_=>trivial
 | d :: r,s,s',hs,h=>⟨h.1.imp id (hs _),parA_mono (fun x hx=>by
   rcases List.mem_cons.1 hx with rfl | hx
   · exact List.mem_cons_self
   · exact List.mem_cons_of_mem _ (hs x hx)) h.2⟩
theorem parA_append:∀ {A B:List Dev} {s:List Int},parA s (A ++ B)↔parA s A∧parA (idxs A ++ s) B
 | [],B,s=>by simp [parA,idxs]
 | d :: A,B,s=>by
  rw [List.cons_append,parA,parA,parA_append (A:=A),and_assoc];have:parA (idxs A ++ d.idx :: s) B↔parA (idxs (d :: A) ++ s) B :=
   ⟨parA_mono (fun x hx=>by simp [idxs] at hx ⊢;rcases hx with h | h | h <;> simp_all),parA_mono (fun x hx=>by simp [idxs] at hx ⊢;rcases hx with h | h | h <;> simp_all)⟩
  rw [this]
structure WF (L:List Dev):Prop where
 nz:∀ d ∈ L,d.idx≠0
 uniq:(idxs L).Nodup
 par:parA [] L
def orgStep (o:Int→List ByteArray) (d:Dev):Int→List ByteArray:=fun n=>if n=d.idx then o d.par ++ [d.orig] else o n
def orgF (L:List Dev):Int→List ByteArray:=L.foldl orgStep (fun _=>[])
theorem orgF_snoc (L:List Dev) (d:Dev):orgF (L ++ [d])=orgStep (orgF L) d:=by unfold orgF;rw [List.foldl_append];rfl
def IsOrg (L:List Dev) (o:Int→List ByteArray):Prop:=(∀ d ∈ L,o d.idx=o d.par ++ [d.orig])∧∀ n,n ∉ idxs L→o n=[]
theorem mem_idxs {L:List Dev} {d:Dev} (h:d ∈ L):d.idx ∈ idxs L:=List.mem_map_of_mem h
theorem WF.left {A B:List Dev} (h:WF (A ++ B)):WF A:=by
 refine ⟨fun d hd=>h.nz d (List.mem_append_left _ hd),?_,(parA_append.1 h.par).1⟩;have:=h.uniq;unfold idxs at this ⊢;rw [List.map_append] at this;exact (List.nodup_append.1 this).1
theorem parA_mem:∀ {L:List Dev} {s:List Int} {d:Dev},parA s L→d ∈ L→d.par=0∨d.par ∈ s∨d.par ∈ idxs L
 | e :: r,s,d,h,hd=>by
  rcases List.mem_cons.1 hd with rfl | hd
  · exact h.1.imp id .inl
  rcases parA_mem h.2 hd with h1 | h1 | h1
  · exact .inl h1
  ·
   rcases List.mem_cons.1 h1 with h2 | h2
   · exact .inr (.inr (by rw [h2];simp [idxs]))
   exact .inr (.inl h2)
  exact .inr (.inr (by simp only [idxs,List.map_cons,List.mem_cons];exact .inr h1))
theorem org_spec_rev:∀ (R:List Dev),WF R.reverse→IsOrg R.reverse (orgF R.reverse)
 | [],_=>⟨fun d hd=>by simp at hd,fun n _=>rfl⟩
 | d :: R,h=>by
  rw [List.reverse_cons] at h ⊢;have hM:=h.left;obtain ⟨i1,i2⟩:=org_spec_rev R hM;rw [orgF_snoc];have hu:=h.uniq;unfold idxs at hu;rw [List.map_append,List.nodup_append] at hu;have hnew:d.idx ∉ idxs R.reverse:=fun hm=>hu.2.2 _ hm _ (by simp) rfl
  have hdz:=h.nz d (by simp);have hpd:d.par≠d.idx:=by
   have:=(parA_append.1 h.par).2;rw [parA] at this;rcases this.1 with A | A
   · omega
   rw [List.append_nil] at A;exact fun e=>hnew (e ▸ A)
  constructor
  ·
   intro e he
   unfold orgStep;rcases List.mem_append.1 he with he | he
   ·
    have A:e.idx≠d.idx:=fun e1=>hnew (e1 ▸ mem_idxs he)
    have B:e.par≠d.idx:=by
     rcases parA_mem hM.par he with h3 | h3 | h3
     · omega
     · simp at h3
     exact fun e1=>hnew (e1 ▸ h3)
    rw [if_neg A,if_neg B];exact i1 e he
   simp at he;subst he
   rw [if_pos rfl,if_neg hpd]
  intro n hn;unfold orgStep;have hn':n≠d.idx∧n ∉ idxs R.reverse:=by
   unfold idxs at hn ⊢;rw [List.map_append,List.mem_append] at hn;exact ⟨fun e=>hn (.inr (by simp [e])),fun e=>hn (.inl e)⟩
  rw [if_neg hn'.1];exact i2 n hn'.2
theorem org_spec {L:List Dev} (h:WF L):IsOrg L (orgF L):=by
 have:=org_spec_rev L.reverse;rw [List.reverse_reverse] at this;exact this h
theorem org_same:∀ {L:List Dev} {s:List Int} {o o':Int→List ByteArray},parA s L→(∀ n ∈ s,o n=o' n)→o 0=o' 0→(∀ d ∈ L,o d.idx=o d.par ++ [d.orig])→(∀ d ∈ L,o' d.idx=o' d.par ++ [d.orig])→∀ d ∈ L,o d.idx=o' d.idx
 | e :: r,s,o,o',hp,hs,h0,h1,h2,d,hd=>by
  have he:o e.idx=o' e.idx:=by
   rw [h1 e List.mem_cons_self,h2 e List.mem_cons_self];rcases hp.1 with h | h
   · rw [h,h0]
   rw [hs _ h]
  rcases List.mem_cons.1 hd with rfl | hd
  · exact he
  exact org_same hp.2 (fun n hn=>by
    rcases List.mem_cons.1 hn with rfl | hn
    · exact he
    · exact hs n hn) h0 (fun x hx=>h1 x (List.mem_cons_of_mem _ hx)) (fun x hx=>h2 x (List.mem_cons_of_mem _ hx)) d hd
theorem org_uniq {L:List Dev} (h:WF L) {o o':Int→List ByteArray} (h1:IsOrg L o) (h2:IsOrg L o'):∀ n,o n=o' n:=by
 intro n;by_cases hn:n ∈ idxs L
 ·
  obtain ⟨d,C,rfl⟩:=List.mem_map.1 hn
  have A:(0:Int) ∉ idxs L:=fun h3=>by
   obtain ⟨e,D,B⟩:=List.mem_map.1 h3;exact h.nz e D B
  exact org_same h.par (fun n hn=>by simp at hn) (by rw [h1.2 0 A,h2.2 0 A]) h1.1 h2.1 d C
 rw [h1.2 n hn,h2.2 n hn]
theorem org_insert {A B:List Dev} {d:Dev} (h:WF (A ++ B)) (hz:d.idx≠0) (hnew:d.idx ∉ idxs (A ++ B)) (hp:d.par=0∨d.par ∈ idxs A) :
  WF (A ++ d :: B)∧∀ n,orgF (A ++ d :: B) n=if n=d.idx then orgF (A ++ B) d.par ++ [d.orig] else orgF (A ++ B) n:=by
 have G:∀ x,x ∈ idxs (A ++ d :: B)↔x=d.idx∨x ∈ idxs (A ++ B):=by
  intro x;unfold idxs;simp only [List.map_append,List.map_cons,List.mem_append,List.mem_cons];constructor
  ·
   rintro (h | h | h)
   · exact .inr (.inl h)
   · exact .inl h
   exact .inr (.inr h)
  rintro (h | h | h)
  · exact .inr (.inl h)
  · exact .inl h
  exact .inr (.inr h)
 have I:WF (A ++ d :: B):=by
  refine ⟨fun e he=>?_,?_,?_⟩
  ·
   simp only [List.mem_append,List.mem_cons] at he
   rcases he with he | rfl | he
   · exact h.nz e (List.mem_append_left _ he)
   · exact hz
   exact h.nz e (List.mem_append_right _ he)
  ·
   have H:=h.uniq
   unfold idxs at H hnew ⊢;rw [List.map_append] at H hnew ⊢;rw [List.map_cons];have C:(A.map (·.idx) ++ d.idx :: B.map (·.idx)).Perm (d.idx :: (A.map (·.idx) ++ B.map (·.idx))):=List.perm_middle;rw [C.nodup_iff];exact List.nodup_cons.2 ⟨hnew,H⟩
  obtain ⟨J,K⟩:=parA_append.1 h.par;refine parA_append.2 ⟨J,?_,parA_mono (fun x hx=>List.mem_cons_of_mem _ hx) K⟩;rcases hp with hp | hp
  · exact .inl hp
  exact .inr (by rw [List.append_nil];exact hp)
 refine ⟨I,?_⟩;obtain ⟨L,M⟩:=org_spec h;have E:∀ e ∈ A ++ B,e.par≠d.idx:=fun e he h3=>by
  rcases parA_mem h.par he with h4 | h4 | h4
  · omega
  · simp at h4
  exact hnew (h3 ▸ h4)
 have F:d.par≠d.idx:=by
  rcases hp with hp | hp
  · omega
  exact fun e=>hnew (by rw [← e];unfold idxs at hp ⊢;rw [List.map_append];exact List.mem_append_left _ hp)
 refine org_uniq I (org_spec I) ⟨fun e he=>?_,fun n hn=>?_⟩
 ·
  simp only [List.mem_append,List.mem_cons] at he
  have D:e=d∨e ∈ A ++ B:=by
   rcases he with he | he | he
   · exact .inr (List.mem_append_left _ he)
   · exact .inl he
   exact .inr (List.mem_append_right _ he)
  dsimp only;rcases D with rfl | he
  · rw [if_pos rfl,if_neg F]
  rw [if_neg (fun h3:e.idx=d.idx=>hnew (h3 ▸ mem_idxs he)),if_neg (E e he)];exact L e he
 have:=fun h3=>hn ((G n).2 h3)
 dsimp only;rw [if_neg (fun h3=>this (.inl h3))];exact M n (fun h3=>this (.inr h3))
structure VT (L:List Dev):Prop where
 wf:WF L
 chk:∀ d ∈ L,checkD d=0
 dep:∀ d ∈ L,(orgF L d.idx).length≤7
 srt:L.Pairwise fun a b=>cmpL (orgF L a.idx) (orgF L b.idx)<0
 clash:L.Pairwise fun a b=>clashB a b=false
 size:L.length≤256
theorem cmpL_own (xs:List ByteArray) (x:ByteArray):cmpL xs (xs ++ [x])<0:=by
 have h:=cmpL_prefix xs [] [x];rw [List.append_nil] at h;rw [h];simp [cmpL]
theorem VT.insert {A B:List Dev} {d:Dev} (h:VT (A ++ B)) (hc:checkD d=0) (hnew:d.idx ∉ idxs (A ++ B)) (hp:d.par=0∨d.par ∈ idxs (A ++ B)) (hsz:(A ++ B).length<256)
  (hdep:(orgF (A ++ B) d.par ++ [d.orig]).length≤7)
  (hA:∀ a ∈ A,cmpL (orgF (A ++ B) a.idx) (orgF (A ++ B) d.par ++ [d.orig])<0) (hB:∀ b ∈ B,cmpL (orgF (A ++ B) d.par ++ [d.orig]) (orgF (A ++ B) b.idx)<0)
  (hcl:∀ t ∈ A ++ B,clashB t d=false∧clashB d t=false):VT (A ++ d :: B)∧∀ n,orgF (A ++ d :: B) n=if n=d.idx then orgF (A ++ B) d.par ++ [d.orig] else orgF (A ++ B) n:=by
 have P:d.idx≠0:=by have:=(check_range hc).1;omega
 have H:d.par=0∨d.par ∈ idxs A:=by
  rcases hp with hp | hp
  · exact .inl hp
  right
  obtain ⟨e,C,E⟩:=List.mem_map.1 hp;rcases List.mem_append.1 C with C | C
  · exact List.mem_map.2 ⟨e,C,E⟩
  have L:=hB e C;rw [show e.idx=d.par from E] at L;have N:=cmpL_own (orgF (A ++ B) d.par) d.orig;have M:=cmpL_total.lt _ _ _ L N;have Q:=(cmpL_total.zero (orgF (A ++ B) d.par ++ [d.orig]) _).2 rfl;omega
 obtain ⟨O,G⟩:=org_insert h.wf P hnew H;have D:∀ e ∈ A ++ B,orgF (A ++ d :: B) e.idx=orgF (A ++ B) e.idx:=fun e C=>by
  rw [G,if_neg (fun M:e.idx=d.idx=>hnew (M ▸ mem_idxs C))]
 have F:orgF (A ++ d :: B) d.idx=orgF (A ++ B) d.par ++ [d.orig]:=by rw [G,if_pos rfl]
 refine ⟨⟨O,fun e C=>?_,fun e C=>?_,?_,?_,?_⟩,G⟩
 ·
  simp only [List.mem_append,List.mem_cons] at C
  rcases C with C | rfl | C
  · exact h.chk e (List.mem_append_left _ C)
  · exact hc
  exact h.chk e (List.mem_append_right _ C)
 ·
  simp only [List.mem_append,List.mem_cons] at C
  rcases C with C | rfl | C
  · rw [D e (List.mem_append_left _ C)];exact h.dep e (List.mem_append_left _ C)
  · rw [F];exact hdep
  rw [D e (List.mem_append_right _ C)];exact h.dep e (List.mem_append_right _ C)
 ·
  obtain ⟨I,J,K⟩:=List.pairwise_append.1 h.srt
  refine List.pairwise_append.2 ⟨?_,List.pairwise_cons.2 ⟨?_,?_⟩,?_⟩
  · exact I.imp_of_mem fun ha hb hr=>by rw [D _ (List.mem_append_left _ ha),D _ (List.mem_append_left _ hb)];exact hr
  · intro b hb;rw [F,D _ (List.mem_append_right _ hb)];exact hB b hb
  · exact J.imp_of_mem fun ha hb hr=>by rw [D _ (List.mem_append_right _ ha),D _ (List.mem_append_right _ hb)];exact hr
  intro a ha b hb;rcases List.mem_cons.1 hb with rfl | hb
  · rw [F,D _ (List.mem_append_left _ ha)];exact hA a ha
  rw [D _ (List.mem_append_left _ ha),D _ (List.mem_append_right _ hb)];exact K a ha b hb
 ·
  obtain ⟨I,J,K⟩:=List.pairwise_append.1 h.clash
  refine List.pairwise_append.2 ⟨I,List.pairwise_cons.2 ⟨fun b hb=>(hcl b (List.mem_append_right _ hb)).2,J⟩,fun a ha b hb=>?_⟩;rcases List.mem_cons.1 hb with rfl | hb
  · exact (hcl a (List.mem_append_left _ ha)).1
  exact K a ha b hb
 simp only [List.length_append,List.length_cons] at hsz ⊢;omega
theorem clash_comm (a b:Dev):clashB a b=clashB b a:=by
 have A:decide (a.nm=b.nm)=decide (b.nm=a.nm):=by rw [Bool.eq_iff_iff];simp [eq_comm]
 have B:decide (a.kind=b.kind)=decide (b.kind=a.kind):=by rw [Bool.eq_iff_iff];simp [eq_comm]
 have C:decide (a.num=b.num)=decide (b.num=a.num):=by rw [Bool.eq_iff_iff];simp [eq_comm]
 unfold clashB;rw [A];congr 1
 · cases decide (a.kind=4) <;> cases decide (b.kind=4) <;> rfl
 cases nodeD a with
 | none=>cases nodeD b <;> rfl
 | some s =>
  cases nodeD b with
  | none=>rfl
  | some u =>
   have D:decide (s=u)=decide (u=s):=by rw [Bool.eq_iff_iff];simp [eq_comm]
   simp only
   rw [B,C,D];cases belowB s u <;> cases belowB u s <;> rfl

def findD (L:List Dev) (n:Int):Option Dev:=L.find? fun d=>decide (d.idx=n)
theorem find_none {L:List Dev} {n:Int}:findD L n=none↔n ∉ idxs L:=by
 unfold findD idxs;rw [List.find?_eq_none];simp only [decide_eq_true_eq,List.mem_map,not_exists,not_and]
theorem find_some {L:List Dev} {n:Int} {d:Dev} (h:findD L n=some d):d ∈ L∧d.idx=n :=
 ⟨List.mem_of_find?_eq_some h,by have:=List.find?_some h;simpa using this⟩
def chainL (L:List Dev):Nat→Int→List Dev
 | 0,_=>[]
 | k+1,n=>match findD L n with
  | none=>[]
  | some d=>d :: chainL L k d.par
theorem org_len_in:∀ {L:List Dev} {s:List Int} {o:Int→List ByteArray} {m:Nat},parA s L→(∀ n ∈ s,(o n).length≤m)→o 0=[]→(∀ d ∈ L,o d.idx=o d.par ++ [d.orig])→∀ d ∈ L,(o d.idx).length≤m+L.length
 | e :: r,s,o,m,hp,hs,h0,h1,d,hd=>by
  have he:(o e.idx).length≤m+1:=by
   rw [h1 e List.mem_cons_self,List.length_append,List.length_singleton];rcases hp.1 with h | h
   · rw [h,h0];simp
   have:=hs _ h;omega
  rcases List.mem_cons.1 hd with rfl | hd
  · rw [List.length_cons];omega
  have:=org_len_in (m:=m+1) hp.2 (fun n hn=>by
   rcases List.mem_cons.1 hn with rfl | hn
   · exact he
   · have:=hs n hn;omega) h0 (fun x hx=>h1 x (List.mem_cons_of_mem _ hx)) d hd
  rw [List.length_cons];omega
theorem org_zero {L:List Dev} (h:WF L):orgF L 0=[]:=(org_spec h).2 0 fun h3=>by
 obtain ⟨e,he,h4⟩:=List.mem_map.1 h3;exact h.nz e he h4
theorem org_len {L:List Dev} (h:WF L) (n:Int):(orgF L n).length≤L.length:=by
 obtain ⟨A,B⟩:=org_spec h;by_cases hn:n ∈ idxs L
 ·
  obtain ⟨d,C,rfl⟩:=List.mem_map.1 hn
  have:=org_len_in (m:=0) h.par (fun n hn=>by simp at hn) (org_zero h) A d C;omega
 rw [B n hn];simp
theorem chain_org {L:List Dev} (h:WF L):∀ (k:Nat) (n:Int),(orgF L n).length≤k→((chainL L k n).reverse.map (·.orig))=orgF L n
 | 0,n,hk=>by
  have:orgF L n=[]:=List.eq_nil_of_length_eq_zero (by omega);rw [this];rfl
 | k+1,n,hk=>by
  rw [chainL];cases hf:findD L n with
  | none=>simp only;rw [(org_spec h).2 n (find_none.1 hf)];rfl
  | some d =>
   obtain ⟨hd,rfl⟩:=find_some hf;have ho:=(org_spec h).1 d hd;rw [ho,List.length_append,List.length_singleton] at hk;simp only
   rw [List.reverse_cons,List.map_append,chain_org h k d.par (by omega),ho];rfl
theorem chain_all {L:List Dev} (h:WF L) (n:Int):((chainL L L.length n).reverse.map (·.orig))=orgF L n:=chain_org h _ _ (org_len h n)
theorem chain_len (L:List Dev):∀ (k:Nat) (n:Int),(chainL L k n).length≤k
 | 0,_=>Nat.le_refl _
 | k+1,n=>by
  rw [chainL];split
  · simp
  rw [List.length_cons];have:=chain_len L k (by assumption:Dev).par;omega
def ownL (L:List Dev) (d:Dev):List ByteArray:=orgF L d.par ++ [d.orig]
def lessP (L:List Dev) (own:List ByteArray) (t:Dev):Bool:=decide (cmpL (orgF L t.idx) own<0)
def atN (L:List Dev) (own:List ByteArray):Nat:=(L.takeWhile (lessP L own)).length
def badP (L:List Dev) (d t:Dev):Bool:=decide (cmpL (orgF L t.idx) (ownL L d)=0) || clashB t d
def insE (L:List Dev) (d:Dev):Int :=
 if checkD d≠0 then 41
 else if (idxs L).contains d.idx then 44
 else if d.par≠0∧(idxs L).contains d.par=false then 42
 else if 256≤L.length then 40
 else if 7<(ownL L d).length then 46
 else if L.any (badP L d) then 44
 else 0
def insL (L:List Dev) (d:Dev):List Dev:=L.take (atN L (ownL L d)) ++ d :: L.drop (atN L (ownL L d))
theorem take_while {α:Type} (p:α→Bool):∀ L:List α,L.take (L.takeWhile p).length=L.takeWhile p∧L.drop (L.takeWhile p).length=L.dropWhile p
 | []=>⟨rfl,rfl⟩
 | x :: r=>by
  rw [List.takeWhile_cons,List.dropWhile_cons];cases hp:p x with
  | true=>simp only [if_true,List.length_cons,List.take_succ_cons,List.drop_succ_cons];exact ⟨by rw [(take_while p r).1],(take_while p r).2⟩
  | false=>simp
theorem drop_first {α:Type} (p:α→Bool):∀ {L:List α} {x:α} {r:List α},L.dropWhile p=x :: r→p x=false
 | y :: ys,x,r,h=>by
  rw [List.dropWhile_cons] at h;cases hp:p y with
  | true=>rw [hp] at h;exact drop_first p h
  | false=>rw [hp] at h;simp at h;rw [← h.1];exact hp
theorem ins_facts {L:List Dev} {d:Dev} (he:insE L d=0):checkD d=0∧d.idx ∉ idxs L∧(d.par=0∨d.par ∈ idxs L)∧L.length<256∧(ownL L d).length≤7∧∀ t ∈ L,cmpL (orgF L t.idx) (ownL L d)≠0∧clashB t d=false:=by
 unfold insE at he;split at he
 · cases he
 split at he
 · cases he
 split at he
 · cases he
 split at he
 · cases he
 split at he
 · cases he
 split at he
 · cases he
 rename_i h1 h2 h3 h4 h5 h6
 refine ⟨by simpa using h1,by simpa using h2,?_,by omega,by omega,fun t ht=>?_⟩
 ·
  by_cases h0:d.par=0
  · exact .inl h0
  right
  have:¬ (idxs L).contains d.par=false:=fun h=>h3 ⟨h0,h⟩
  simpa using this
 have B:∀ x ∈ L,badP L d x=false:=by simpa using h6
 have A:=B t ht;unfold badP at A;rw [Bool.or_eq_false_iff] at A;exact ⟨by simpa using A.1,A.2⟩
theorem ins_VT {L:List Dev} {d:Dev} (h:VT L) (he:insE L d=0):VT (insL L d)∧∀ n,orgF (insL L d) n=if n=d.idx then ownL L d else orgF L n:=by
 obtain ⟨P,R,S,T,U,G⟩:=ins_facts he;obtain ⟨N,O⟩:=take_while (lessP L (ownL L d)) L;unfold insL atN;rw [N,O];have C:L.takeWhile (lessP L (ownL L d)) ++ L.dropWhile (lessP L (ownL L d))=L:=List.takeWhile_append_dropWhile;obtain ⟨A,hA⟩:∃ A,L.takeWhile (lessP L (ownL L d))=A:=⟨_,rfl⟩;obtain ⟨B,hB⟩:∃ B,L.dropWhile (lessP L (ownL L d))=B:=⟨_,rfl⟩;rw [hA,hB] at C ⊢;have J:∀ a ∈ A,cmpL (orgF L a.idx) (ownL L d)<0:=fun a ha=>by
  rw [← hA] at ha;have:=List.all_takeWhile (p:=lessP L (ownL L d)) (l:=L);have H:=List.all_eq_true.1 this a ha;simpa [lessP] using H
 have I:∀ b ∈ B,cmpL (ownL L d) (orgF L b.idx)<0:=by
  have F:=h.srt;rw [← C] at F;have D:=(List.pairwise_append.1 F).2.1;rw [C] at D;have E:∀ b ∈ B,b ∈ L:=fun b hb=>by rw [← C];exact List.mem_append_right _ hb
  cases hB2:B with
  | nil=>intro b hb;cases hb
  | cons x r =>
   have M:cmpL (ownL L d) (orgF L x.idx)<0:=by
    have H:=drop_first _ (hB.trans hB2);have V:¬ cmpL (orgF L x.idx) (ownL L d)<0:=by simpa [lessP] using H
    have W:=(G x (E x (by rw [hB2];exact List.mem_cons_self))).1;have Q:=cmpL_total.anti (orgF L x.idx) (ownL L d);omega
   intro b hb;rcases List.mem_cons.1 hb with rfl | hb
   · exact M
   rw [hB2] at D;exact cmpL_total.lt _ _ _ M ((List.pairwise_cons.1 D).1 b hb)
 have K:=VT.insert (A:=A) (B:=B) (d:=d) (by rw [C];exact h) P (by rw [C];exact R) (by rw [C];exact S) (by rw [C];exact T) (by rw [C];exact U) (by rw [C];exact J) (by rw [C];exact I)
  (by rw [C];exact fun t ht=>⟨(G t ht).2,by rw [clash_comm];exact (G t ht).2⟩)
 rw [C] at K;exact K
theorem VT_nil:VT []:=by
 refine ⟨⟨fun d h=>(by cases h),(by unfold idxs;simp),trivial⟩,fun d h=>(by cases h),fun d h=>(by cases h),List.Pairwise.nil,List.Pairwise.nil,by simp⟩
theorem take_while_all {α:Type} {p:α→Bool}:∀ {l:List α},(∀ x ∈ l,p x=true)→l.takeWhile p=l
 | [],_=>rfl
 | x :: r,h=>by rw [List.takeWhile_cons,if_pos (h x List.mem_cons_self),take_while_all (fun y hy=>h y (List.mem_cons_of_mem _ hy))]
theorem at_step {L:List Dev} (h:VT L) (own:List ByteArray) {k:Nat} (hk:k<L.length) :
  ((L.take (k+1)).takeWhile (lessP L own)).length=if lessP L own L[k] then k+1 else ((L.take k).takeWhile (lessP L own)).length:=by
 have A:L.take (k+1)=L.take k ++ [L[k]]:=by rw [List.take_add_one,List.getElem?_eq_getElem hk];rfl
 by_cases hp:lessP L own L[k]=true
 ·
  rw [if_pos hp]
  have C:∀ x ∈ L.take (k+1),lessP L own x=true:=by
   intro x hx;rw [A] at hx;rcases List.mem_append.1 hx with hx | hx
   ·
    have B:=h.srt
    rw [← List.take_append_drop (k+1) L,A] at B;rw [← A,List.take_append_drop] at B;obtain ⟨i,F,rfl⟩:=List.getElem_of_mem hx;rw [List.length_take] at F;have D:=List.pairwise_iff_getElem.1 B i k (by omega) hk (by omega);rw [List.getElem_take];unfold lessP at hp ⊢;rw [decide_eq_true_eq] at hp ⊢;exact cmpL_total.lt _ _ _ D hp
   simp at hx;rw [hx];exact hp
  rw [take_while_all C,List.length_take];omega
 rw [if_neg hp,A];have E:lessP L own L[k]=false:=by simpa using hp
 rw [List.takeWhile_append];split
 ·
  rename_i hl
  rw [List.takeWhile_cons,E];simp;rw [hl,List.length_take]
 rfl
theorem ins_length (L:List Dev) (d:Dev):(insL L d).length=L.length+1:=by
 unfold insL;rw [List.length_append,List.length_cons,List.length_take,List.length_drop];omega

theorem splitOn_none (c:UInt8):∀ (x:List UInt8),x.all (fun b=>!(b == c))=true→splitOn c x=[x]
 | [],_=>rfl
 | b :: x,h=>by
  rw [List.all_cons,Bool.and_eq_true] at h;have hb:¬ b=c:=by simpa using h.1
  rw [splitOn,if_neg hb,splitOn_none c x h.2]
theorem splitOn_app (c:UInt8) (l:List UInt8):∀ (x:List UInt8),x.all (fun b=>!(b == c))=true→splitOn c (x ++ c :: l)=x :: splitOn c l
 | [],_=>by rw [List.nil_append,splitOn,if_pos rfl]
 | b :: x,h=>by
  rw [List.all_cons,Bool.and_eq_true] at h;have hb:¬ b=c:=by simpa using h.1
  rw [List.cons_append,splitOn,if_neg hb,splitOn_app c l x h.2]
theorem splitOn_join (c:UInt8):∀ (x:List UInt8) (r:List (List UInt8)),(x :: r).all (fun y=>y.all (fun b=>!(b == c)))=true→splitOn c (Lib.join (x :: r) [c])=x :: r
 | x,[],h=>by
  rw [List.all_cons,Bool.and_eq_true] at h;rw [Lib.join_cons];simp only [Lib.joinTail,List.flatMap_nil,List.append_nil,List.flatten_nil,List.map_nil];exact splitOn_none c x h.1
 | x,y :: r,h=>by
  have ih:=splitOn_join c y r (by rw [List.all_cons,Bool.and_eq_true] at h;exact h.2);rw [List.all_cons,Bool.and_eq_true] at h;rw [Lib.join_cons] at ih ⊢;have e:Lib.joinTail [c] (y :: r)=c :: (y ++ Lib.joinTail [c] r):=by simp [Lib.joinTail]
  rw [e,splitOn_app c _ x h.1,ih]
theorem pieces_join {xs:List ByteArray} (hn:xs≠[]) (h:xs.all (fun x=>x.data.toList.all (fun b=>!(b == 47)))=true):piecesL (joinB xs).data.toList=xs:=by
 cases xs with
 | nil=>exact absurd rfl hn
 | cons x r =>
  unfold piecesL joinB;rw [toB_data,List.map_cons,splitOn_join 47 _ _ (by rw [← List.map_cons (f:=fun x:ByteArray=>x.data.toList),List.all_map];exact h)];rw [List.map_cons,List.map_map];rw [data_toB];congr 1
  conv=>rhs;rw [← List.map_id r]
  apply List.map_congr_left
  intro y _;exact data_toB y
def pathS (xs:List ByteArray):ByteArray:=xs.foldl (fun s n=>(s ++ ⟨#[47]⟩) ++ n) ⟨#[]⟩
theorem pathS_snoc (xs:List ByteArray) (x:ByteArray):pathS (xs ++ [x])=(pathS xs ++ ⟨#[47]⟩) ++ x:=by unfold pathS;rw [List.foldl_append];rfl
theorem app_data (a b:ByteArray):(a ++ b).data.toList=a.data.toList ++ b.data.toList:=by simp
theorem fold_data:∀ (xs:List ByteArray) (s:ByteArray),(xs.foldl (fun s n=>(s ++ ⟨#[47]⟩) ++ n) s).data.toList=s.data.toList ++ xs.flatMap (fun x=>47 :: x.data.toList)
 | [],s=>by simp
 | x :: xs,s=>by
  rw [List.foldl_cons,fold_data xs,app_data,app_data,List.flatMap_cons];simp
theorem pathS_data (xs:List ByteArray):(pathS xs).data.toList=xs.flatMap (fun x=>47 :: x.data.toList):=by
 unfold pathS;rw [fold_data];rfl
theorem join_flat:∀ (x:List UInt8) (r:List (List UInt8)),47 :: Lib.join (x :: r) [47]=(x :: r).flatMap (fun y=>47 :: y)
 | x,[]=>by rw [Lib.join_cons];simp [Lib.joinTail]
 | x,y :: r=>by
  have ih:=join_flat y r;rw [Lib.join_cons] at ih ⊢;have e:Lib.joinTail [47] (y :: r)=47 :: (y ++ Lib.joinTail [47] r):=by simp [Lib.joinTail]
  rw [e,List.flatMap_cons,← ih];simp
theorem pathS_join {xs:List ByteArray} (hn:xs≠[]):pathS xs=toB (47 :: (joinB xs).data.toList):=by
 apply ba_ext
 rw [pathS_data,toB_data];unfold joinB;rw [toB_data];cases xs with
 | nil=>exact absurd rfl hn
 | cons x r =>
  rw [List.map_cons,join_flat,← List.map_cons (f:=fun x:ByteArray=>x.data.toList),List.flatMap_map]
def strStep (o:Int→ByteArray) (d:Dev):Int→ByteArray:=fun n=>if n=d.idx then (o d.par ++ ⟨#[47]⟩) ++ d.orig else o n
def strF (L:List Dev):Int→ByteArray:=L.foldl strStep (fun _=>⟨#[]⟩)
theorem str_fold:∀ (L:List Dev) (o:Int→List ByteArray) (s:Int→ByteArray),(∀ n,s n=pathS (o n))→∀ n,L.foldl strStep s n=pathS (L.foldl orgStep o n)
 | [],_,_,h,n=>h n
 | d :: r,o,s,h,n=>by
  rw [List.foldl_cons,List.foldl_cons];refine str_fold r _ _ (fun m=>?_) n;unfold strStep orgStep;split
  · rw [h,pathS_snoc]
  exact h m
theorem strF_eq (L:List Dev) (n:Int):strF L n=pathS (orgF L n):=str_fold L (fun _=>[]) (fun _=>⟨#[]⟩) (fun _=>rfl) n
theorem org_valid_in:∀ {L:List Dev} {s:List Int} {o:Int→List ByteArray},parA s L→(∀ n ∈ s,(o n).all validB=true)→o 0=[]→(∀ d ∈ L,o d.idx=o d.par ++ [d.orig])→(∀ d ∈ L,validB d.orig=true)→∀ d ∈ L,(o d.idx).all validB=true
 | e :: r,s,o,hp,hs,h0,h1,hv,d,hd=>by
  have he:(o e.idx).all validB=true:=by
   rw [h1 e List.mem_cons_self,List.all_append,Bool.and_eq_true];refine ⟨?_,by simp [hv e List.mem_cons_self]⟩;rcases hp.1 with h | h
   · rw [h,h0];rfl
   exact hs _ h
  rcases List.mem_cons.1 hd with rfl | hd2
  · exact he
  exact org_valid_in hp.2 (fun n hn=>by
    rcases List.mem_cons.1 hn with rfl | hn2
    · exact he
    · exact hs n hn2) h0 (fun x hx=>h1 x (List.mem_cons_of_mem _ hx)) (fun x hx=>hv x (List.mem_cons_of_mem _ hx)) d hd2
theorem org_valid {L:List Dev} (h:VT L) (n:Int):(orgF L n).all validB=true:=by
 obtain ⟨B,C⟩:=org_spec h.wf;by_cases hn:n ∈ idxs L
 ·
  obtain ⟨d,A,rfl⟩:=List.mem_map.1 hn
  exact org_valid_in h.wf.par (fun n hn=>by simp at hn) (org_zero h.wf) B (fun d A=>(check_names (h.chk d A)).2.1) d A
 rw [C n hn];rfl

def chainO (L:List Dev) (n:Int):List Dev:=chainL L L.length n
theorem org_set {A B:List Dev} {d e:Dev} (h:WF (A ++ d :: B)) (hi:e.idx=d.idx) (hp:e.par=d.par) (ho:e.orig=d.orig):WF (A ++ e :: B)∧∀ n,orgF (A ++ e :: B) n=orgF (A ++ d :: B) n:=by
 have C:idxs (A ++ e :: B)=idxs (A ++ d :: B):=by unfold idxs;rw [List.map_append,List.map_append,List.map_cons,List.map_cons,hi]
 have D:orgF (A ++ e :: B)=orgF (A ++ d :: B):=by
  unfold orgF;rw [List.foldl_append,List.foldl_append,List.foldl_cons,List.foldl_cons];have:∀ o,orgStep o e=orgStep o d:=fun o=>by unfold orgStep;rw [hi,hp,ho]
  rw [this]
 refine ⟨⟨fun x hx=>?_,by rw [C];exact h.uniq,?_⟩,fun n=>by rw [D]⟩
 ·
  simp only [List.mem_append,List.mem_cons] at hx
  rcases hx with hx | rfl | hx
  · exact h.nz x (by simp [hx])
  · rw [hi];exact h.nz d (by simp)
  exact h.nz x (by simp [hx])
 have E:=parA_append.1 h.par;refine parA_append.2 ⟨E.1,?_⟩;have F:=E.2;rw [parA] at F ⊢;rw [hi,hp];exact F
theorem VT.set_ {A B:List Dev} {d e:Dev} (h:VT (A ++ d :: B)) (hi:e.idx=d.idx) (hp:e.par=d.par) (ho:e.orig=d.orig) (hc:checkD e=0) (hcl:∀ t ∈ A ++ B,clashB t e=false):VT (A ++ e :: B)∧∀ n,orgF (A ++ e :: B) n=orgF (A ++ d :: B) n:=by
 obtain ⟨H,hq⟩:=org_set h.wf hi hp ho;refine ⟨⟨H,fun x hx=>?_,fun x hx=>?_,?_,?_,?_⟩,hq⟩
 ·
  simp only [List.mem_append,List.mem_cons] at hx
  rcases hx with hx | rfl | hx
  · exact h.chk x (by simp [hx])
  · exact hc
  exact h.chk x (by simp [hx])
 ·
  rw [hq]
  simp only [List.mem_append,List.mem_cons] at hx;rcases hx with hx | rfl | hx
  · exact h.dep x (by simp [hx])
  · rw [hi];exact h.dep d (by simp)
  exact h.dep x (by simp [hx])
 ·
  obtain ⟨D,E,C⟩:=List.pairwise_append.1 h.srt
  obtain ⟨G,F⟩:=List.pairwise_cons.1 E;have hq':∀ n,orgF (A ++ e :: B) n=orgF (A ++ d :: B) n:=hq;simp only [hq'];refine List.pairwise_append.2 ⟨D,List.pairwise_cons.2 ⟨fun b hb=>by rw [hi];exact G b hb,F⟩,fun a ha b hb=>?_⟩;rcases List.mem_cons.1 hb with rfl | hb
  · rw [hi];exact C a ha d List.mem_cons_self
  exact C a ha b (List.mem_cons_of_mem _ hb)
 ·
  obtain ⟨D,E,C⟩:=List.pairwise_append.1 h.clash
  obtain ⟨G,F⟩:=List.pairwise_cons.1 E;refine List.pairwise_append.2 ⟨D,List.pairwise_cons.2 ⟨fun b hb=>by rw [clash_comm];exact hcl b (List.mem_append_right _ hb),F⟩,fun a ha b hb=>?_⟩;rcases List.mem_cons.1 hb with rfl | hb
  · exact hcl a (List.mem_append_left _ ha)
  exact C a ha b (List.mem_cons_of_mem _ hb)
 have:=h.size;simpa using this
theorem byte_no {s:List UInt8} {c:UInt8} (h:∀ b ∈ s,b≠c):Lib.indexByte s c = -1:=by
 induction s with
 | nil=>rfl
 | cons b s ih =>
  rw [Lib.indexByte,if_neg (by simpa using h b List.mem_cons_self),ih (fun x hx=>h x (List.mem_cons_of_mem _ hx))];rfl
theorem byte_at {a r:List UInt8} {c:UInt8} (h:∀ b ∈ a,b≠c):Lib.indexByte (a ++ c :: r) c=a.length:=by
 induction a with
 | nil=>rw [List.nil_append,Lib.indexByte,if_pos (by simp)];rfl
 | cons b a ih =>
  rw [List.cons_append,Lib.indexByte,if_neg (by simpa using h b List.mem_cons_self),ih (fun x hx=>h x (List.mem_cons_of_mem _ hx)),if_neg (by simp <;> omega)];rw [List.length_cons];omega
def swapB (c d:UInt8) (l:List UInt8):List UInt8:=l.map fun b=>if b=c then d else b
theorem swap_no {c d:UInt8} {l:List UInt8} (h:∀ b ∈ l,b≠c):swapB c d l=l:=by
 unfold swapB;conv=>rhs;rw [← List.map_id l]
 apply List.map_congr_left
 intro b hb;rw [if_neg (h b hb)];rfl
theorem cut_at (c:UInt8):∀ l:List UInt8,(∀ b ∈ l,b≠c)∨∃ a r,l=a ++ c :: r∧∀ b ∈ a,b≠c
 | []=>.inl fun b hb=>by cases hb
 | x :: l=>by
  by_cases hx:x=c
  · exact .inr ⟨[],l,by rw [hx];rfl,fun b hb=>by cases hb⟩
  rcases cut_at c l with h | ⟨a,r,rfl,h⟩
  ·
   exact .inl fun b hb=>by
    rcases List.mem_cons.1 hb with rfl | hb
    · exact hx
    exact h b hb
  exact .inr ⟨x :: a,r,rfl,fun b hb=>by
    rcases List.mem_cons.1 hb with rfl | hb
    · exact hx
    · exact h b hb⟩
theorem replaceK_swap (c d:UInt8):∀ (n:Nat) (l:List UInt8),l.length≤n→Lib.replaceK [c] [d] (Lib.count l [c]) l=swapB c d l
 | n,l,hn=>by
  rcases cut_at c l with h | ⟨a,r,rfl,h⟩
  · rw [Lib.count_miss (by rw [Lib.index_one,byte_no h]),swap_no h];rfl
  have hi:Lib.index (a ++ c :: r) [c]=a.length:=by rw [Lib.index_one,byte_at h]
  have A:(a ++ c :: r).drop (a.length+[c].length)=r:=by rw [← List.drop_drop,List.drop_left];rfl
  have B:Lib.count (a ++ c :: r) [c]=Lib.count r [c]+1:=by
   rw [Lib.count_hit (by simp) hi,A];omega
  rw [B,Lib.replaceK_hit _ _ _ _ _ hi,A];match n,hn with
  | 0,hn=>simp at hn
  | n+1,hn =>
   rw [replaceK_swap c d n r (by simp at hn;omega)];have:swapB c d (a ++ c :: r)=swapB c d a ++ (d :: swapB c d r):=by unfold swapB;simp
   rw [this,swap_no h];simp
theorem replaceAll_swap {c d:UInt8} (hne:c≠d) (l:List UInt8):Lib.replaceAll l [c] [d]=swapB c d l:=by
 have A:([c] == [d])=false:=by simp [hne]
 unfold Lib.replaceAll Lib.replace Lib.replaceNum;rw [A,if_neg (by simp),if_pos (.inl (by omega))];exact replaceK_swap c d _ l (Nat.le_refl _)
theorem nodeS_eq (s:ByteArray):(⟨(Lib.replaceAll s.data.toList [33] [47]).toArray⟩:ByteArray)=nodeS s:=by
 rw [replaceAll_swap (by decide)];rfl
theorem nodeS_size (s:ByteArray):(nodeS s).size=s.size:=by
 rw [← ba_size,← ba_size];unfold nodeS;simp
def DCells (w:World) (b o:Nat) (d:Dev) (A:Option Addr) (c:Nat):Prop :=
 w.cell? ⟨b,o,none⟩=some (.int .i64 d.idx)∧w.cell? ⟨b,o+1,none⟩=some (.int .i64 d.par)∧w.cell? ⟨b,o+2,none⟩=some (.string d.nm)∧w.cell? ⟨b,o+3,none⟩=some (.string d.orig)∧w.cell? ⟨b,o+4,none⟩=some (.string d.sub)∧w.cell? ⟨b,o+5,none⟩=some (.string d.drv)∧w.cell? ⟨b,o+6,none⟩=some (.string d.ali)∧w.cell? ⟨b,o+7,none⟩=some (.int .i64 d.kind)∧w.cell? ⟨b,o+8,none⟩=some (.int .i64 d.num)∧w.cell? ⟨b,o+9,none⟩=some (.slice A d.attrs.length c)
theorem dcells {w:World} {b o:Nat} {d:Dev} {A:Option Addr} {c:Nat} (h:∀ j u,(devCells d A c)[j]? = some u→w.cell? ⟨b,o+j,none⟩=some u):DCells w b o d A c :=
 ⟨h 0 _ rfl,h 1 _ rfl,h 2 _ rfl,h 3 _ rfl,h 4 _ rfl,h 5 _ rfl,h 6 _ rfl,h 7 _ rfl,h 8 _ rfl,h 9 _ rfl⟩
theorem DCells.keep {w w':World} {B b o:Nat} {d:Dev} {A:Option Addr} {c:Nat} (h:DCells w b o d A c) (hb:Below B w w') (hlt:b<B):DCells w' b o d A c:=by
 obtain ⟨C,D,E,F,G,H,I,J,K,L⟩:=h;exact ⟨(hb.cell (by exact hlt)).trans C,(hb.cell (by exact hlt)).trans D,(hb.cell (by exact hlt)).trans E,(hb.cell (by exact hlt)).trans F,(hb.cell (by exact hlt)).trans G,(hb.cell (by exact hlt)).trans H,(hb.cell (by exact hlt)).trans I,(hb.cell (by exact hlt)).trans J,(hb.cell (by exact hlt)).trans K,(hb.cell (by exact hlt)).trans L⟩
theorem DCells.zero {w:World} {b:Nat} {d:Dev} {A:Option Addr} {c:Nat} (h:DCells w b 0 d A c) :
  w.cell? ⟨b,0,none⟩=some (.int .i64 d.idx)∧w.cell? ⟨b,1,none⟩=some (.int .i64 d.par)∧w.cell? ⟨b,2,none⟩=some (.string d.nm)∧w.cell? ⟨b,3,none⟩=some (.string d.orig)∧w.cell? ⟨b,4,none⟩=some (.string d.sub)∧w.cell? ⟨b,5,none⟩=some (.string d.drv)∧w.cell? ⟨b,6,none⟩=some (.string d.ali)∧w.cell? ⟨b,7,none⟩=some (.int .i64 d.kind)∧w.cell? ⟨b,8,none⟩=some (.int .i64 d.num)∧w.cell? ⟨b,9,none⟩=some (.slice A d.attrs.length c):=by
 obtain ⟨B,C,D,E,F,G,H,I,J,K⟩:=h;exact ⟨B,by simpa using C,by simpa using D,by simpa using E,by simpa using F,by simpa using G,by simpa using H,by simpa using I,by simpa using J,by simpa using K⟩
theorem box10 {w w0:World} {ty:TypeId} {d:Dev} {A:Option Addr} {c:Nat} (h:w.alloc (.cells #[.int .i64 d.idx,.int .i64 d.par,.string d.nm,.string d.orig,.string d.sub,.string d.drv,.string d.ali,.int .i64 d.kind,.int .i64 d.num,.slice A d.attrs.length c] ty)=w0) :
  Below w.heap.size w w0∧w0.heap.size=w.heap.size+1∧DCells w0 w.heap.size 0 d A c:=by
 subst h;refine ⟨(Below.refl _ _).alloc (Nat.le_refl _) _,by simp,?_⟩;refine ⟨?_,?_,?_,?_,?_,?_,?_,?_,?_,?_⟩ <;> (rw [World.cell?_alloc_at _ _ _ _ rfl];rfl)
theorem Sl.dev {w:World} {B c:Nat} {A:Option Addr} {xs:List Dev} (h:Sl w B A c xs) {i:Nat} (hi:i<xs.length) :
  ∃ b o,A=some ⟨b,o,none⟩∧b<B∧∃ A2 c2,devOk xs[i]∧Sl w B A2 c2 xs[i].attrs∧DCells w b (o+i * 10) xs[i] A2 c2:=by
 obtain ⟨b,o,e,C,I,H,G⟩:=h.at_ hi;obtain ⟨A2,c2,rfl,E,F⟩:=DRd_iff.1 H;exact ⟨b,o,e,C,A2,c2,E,F,dcells fun j u hu=>by have D:=G j u hu;rw [← Nat.add_assoc] at D;exact D⟩
theorem Sl.attr {w:World} {B c:Nat} {A:Option Addr} {xs:List Attr} (h:Sl w B A c xs) {i:Nat} (hi:i<xs.length) :
  ∃ b o,A=some ⟨b,o,none⟩∧b<B∧(xs[i].name.size≤maxLen∧xs[i].value.size≤maxLen)∧w.cell? ⟨b,o+i * 2,none⟩=some (.string xs[i].name)∧w.cell? ⟨b,o+i * 2+1,none⟩=some (.string xs[i].value):=by
 obtain ⟨b,o,e,C,I,H,E⟩:=h.at_ hi;obtain ⟨rfl,F,G⟩:=H;refine ⟨b,o,e,C,⟨F,G⟩,?_,?_⟩
 · have D:=E 0 _ rfl;rw [Nat.add_zero] at D;exact D
 have:=E 1 _ rfl;rw [← Nat.add_assoc] at this;exact this
theorem cell_set_far (w:World) (a:Addr) (v:Value) (b o:Nat) (h:a.block≠b):(w.setCell a v).cell? ⟨b,o,none⟩=w.cell? ⟨b,o,none⟩ :=
 World.cell?_setCell_other w a ⟨b,o,none⟩ v (fun e=>h (by rw [e]))
theorem box7f {w w0:World} {ty:TypeId} {cs:Array Value} (h:w.alloc (.cells cs ty)=w0):∀ j,w0.frozen? ⟨w.heap.size,j,none⟩=false:=by
 subst h;intro j;exact World.frozen?_alloc_at _ _ _ _ rfl
theorem cell_heap {w w':World} {b:Nat} (h:w'.heap[b]? = w.heap[b]?) (o:Nat):w'.cell? ⟨b,o,none⟩=w.cell? ⟨b,o,none⟩:=by
 simp [World.cell?,h]
theorem frozen_heap {w w':World} {b:Nat} (h:w'.heap[b]? = w.heap[b]?) (o:Nat):w'.frozen? ⟨b,o,none⟩=w.frozen? ⟨b,o,none⟩:=by
 simp [World.frozen?,h]
theorem grown_new {a w w':World} {row row2:Option Nat} (h:a.grownBy w row) (hg:w.grownBy w' row2) (h2:∀ k,row2=some k→a.heap.size≤k):a.grownBy w' row :=
 ⟨hg.os.trans h.os,hg.tape.trans h.tape,hg.output.trans h.output,Nat.le_trans h.size hg.size,fun k hk hne=>(hg.block k (Nat.lt_of_lt_of_le hk h.size) (fun e=>by have:=h2 k e.symm;omega)).trans (h.block k hk hne)⟩
theorem grown_below {a w w':World} {row:Option Nat} (h:a.grownBy w row) (hb:Below w.heap.size w w'):a.grownBy w' row :=
 ⟨hb.os.trans h.os,hb.tape.trans h.tape,hb.output.trans h.output,Nat.le_trans h.size hb.size,fun k hk hne=>(hb.block k (Nat.lt_of_lt_of_le hk h.size)).trans (h.block k hk hne)⟩
theorem grown_trans {a b c:World} {row:Option Nat} (h:a.grownBy b row) (k:b.grownBy c row):a.grownBy c row :=
 ⟨k.os.trans h.os,k.tape.trans h.tape,k.output.trans h.output,Nat.le_trans h.size k.size,fun i hi hne=>(k.block i (Nat.lt_of_lt_of_le hi h.size) hne).trans (h.block i hi hne)⟩

theorem below_of_grown {B b:Nat} {a w w':World} (h:Below B a w) (hg:w.grownBy w' (some b)) (hB:B≤w.heap.size) (hb:B≤b):Below B a w' :=
 h.grown hg hB (fun k hk=>by have:=Option.some.inj hk;omega)
def BoxL (w:World) (g:Nat) (cs:List Value):Prop:=(∀ (j:Nat) u,cs[j]? = some u→w.cell? ⟨g,j,none⟩=some u)∧(∀ j,w.frozen? ⟨g,j,none⟩=false)∧g<w.heap.size
theorem BoxL.kept {w w':World} {g:Nat} {cs:List Value} {row:Option Nat} (h:BoxL w g cs) (hg:w.grownBy w' row) (hne:some g≠row):BoxL w' g cs:=by
 obtain ⟨C,D,A⟩:=h;have B:=hg.block g A hne;exact ⟨fun j u hu=>(cell_heap B j).trans (C j u hu),fun j=>(frozen_heap B j).trans (D j),Nat.lt_of_lt_of_le A hg.size⟩
theorem BoxL.set_ {w:World} {g:Nat} {cs:List Value} (h:BoxL w g cs) {j:Nat} (hj:j<cs.length) (v:Value):BoxL (w.setCell ⟨g,j,none⟩ v) g (cs.set j v):=by
 obtain ⟨B,C,A⟩:=h;refine ⟨fun i u hu=>?_,fun i=>(World.frozen?_setCell w _ _ _).trans (C i),by simpa using A⟩;rw [List.getElem?_set] at hu;split at hu
 ·
  rename_i he
  subst he;obtain rfl:=Option.some.inj hu;exact World.cell?_setCell_same' w ⟨g,j,none⟩ _ (by rw [B j _ (List.getElem?_eq_getElem hj)];rfl)
 rename_i he
 exact (World.cell?_setCell_other w ⟨g,j,none⟩ ⟨g,i,none⟩ _ (fun e=>he (by injection e))).trans (B i u hu)
theorem BoxL.far {w:World} {g g' j:Nat} {cs:List Value} (h:BoxL w g cs) (hne:g'≠g) (v:Value):BoxL (w.setCell ⟨g',j,none⟩ v) g cs :=
 ⟨fun i u hu=>(cell_set_far w ⟨g',j,none⟩ v g i hne).trans (h.1 i u hu),fun i=>(World.frozen?_setCell w _ _ _).trans (h.2.1 i),by simpa using h.2.2⟩
theorem grown_set {a w:World} {row:Option Nat} {g j:Nat} (h:a.grownBy w row) (hg:a.heap.size≤g) (v:Value):a.grownBy (w.setCell ⟨g,j,none⟩ v) row :=
 ⟨h.os,h.tape,h.output,by simpa using h.size,fun i hi hne=>(Below.heap_setCell _ _ _ _ (fun e=>by have e:i=g:=e;omega)).trans (h.block i hi hne)⟩
theorem grown_none {w w':World} (hb:Below w.heap.size w w'):w.grownBy w' none:=⟨hb.os,hb.tape,hb.output,hb.size,fun k hk _=>hb.block k hk⟩
theorem grown_one (w:World) (g j:Nat) (v:Value):w.grownBy (w.setCell ⟨g,j,none⟩ v) (some g) :=
 ⟨rfl,rfl,rfl,by simp,fun i hi hne=>Below.heap_setCell _ _ _ _ (fun e=>hne (by have e:i=g:=e;rw [e]))⟩
theorem BoxL.drew {w:World} {g:Nat} {cs:List Value} (h:BoxL w g cs):BoxL w.drew g cs:=h.kept (grown_none (below_drewN_self w _ 1)) (fun e=>by cases e)
theorem box_mk {w w':World} {t:TypeId} {cs:Array Value} (h:w.alloc (.cells cs t)=w'):BoxL w' w.heap.size cs.toList:=by
 refine ⟨fun j u hu=>?_,box7f h,by rw [← h];simp⟩;rw [← h,World.cell?_alloc_at _ _ _ _ rfl];simpa using hu
def geA (a b:ByteArray):Bool:=!strLt a b
def setGo (n v:ByteArray):Bool→List Attr→List Attr
 | done,[]=>if done then [] else [⟨n,v⟩]
 | done,a :: r=>(if !done && geA a.name n then [⟨n,v⟩] else []) ++ ((if a.name=n then [] else [a]) ++ setGo n v (done || geA a.name n) r)
def setA (l:List Attr) (n v:ByteArray):List Attr:=setGo n v (v.toList.isEmpty) l
theorem setGo_done (n v:ByteArray):∀ l:List Attr,(setGo n v true l).length≤l.length
 | []=>by simp [setGo]
 | a :: r=>by
  have:=setGo_done n v r;rw [setGo];simp only [Bool.not_true,Bool.false_and,Bool.false_eq_true,if_false,List.nil_append,Bool.true_or];split
  · rw [List.nil_append,List.length_cons];omega
  simp;omega
theorem setGo_len (n v:ByteArray):∀ (l:List Attr) (done:Bool),(setGo n v done l).length≤l.length+1
 | [],done=>by cases done <;> simp [setGo]
 | a :: r,done=>by
  rw [setGo];cases done with
  | true =>
   have:=setGo_done n v r;simp only [Bool.not_true,Bool.false_and,Bool.false_eq_true,if_false,List.nil_append,Bool.true_or];split
   · rw [List.nil_append,List.length_cons];omega
   simp;omega
  | false =>
   cases geA a.name n with
   | true =>
    have:=setGo_done n v r;simp only [Bool.not_false,Bool.true_and,if_true,Bool.or_true];split
    · simp;omega
    simp;omega
   | false =>
    have:=setGo_len n v r false;simp only [Bool.and_false,Bool.false_eq_true,if_false,List.nil_append,Bool.or_false];split
    · simp;omega
    simp;omega
theorem setA_len (l:List Attr) (n v:ByteArray):(setA l n v).length≤l.length+1:=setGo_len n v l _
theorem setGo_mem (n v:ByteArray):∀ (l:List Attr) (done:Bool),∀ x ∈ setGo n v done l,x=⟨n,v⟩∨x ∈ l
 | [],done,x,h=>by
  cases done
  · simp [setGo] at h;exact .inl h
  simp [setGo] at h
 | a :: r,done,x,h=>by
  rw [setGo,List.mem_append,List.mem_append] at h;rcases h with h | h | h
  ·
   split at h
   · simp at h;exact .inl h
   cases h
  ·
   split at h
   · cases h
   simp at h;exact .inr (by rw [h];exact List.mem_cons_self)
  exact (setGo_mem n v r _ x h).imp id (List.mem_cons_of_mem _)
theorem setA_mem (l:List Attr) (n v:ByteArray):∀ x ∈ setA l n v,x=⟨n,v⟩∨x ∈ l:=setGo_mem n v l _
def fewA (m:Nat) (l:List Attr):Prop:=l.length≤m∧∀ a ∈ l,a.name.size≤1000∧a.value.size≤1000
theorem fewA.set_ {m:Nat} {l:List Attr} (h:fewA m l) {n v:ByteArray} (hn:n.size≤1000) (hv:v.size≤1000):fewA (m+1) (setA l n v) :=
 ⟨by have:=setA_len l n v;have:=h.1;omega,fun a ha=>by
  rcases setA_mem l n v a ha with rfl | ha
  · exact ⟨hn,hv⟩
  · exact h.2 a ha⟩
def devFew (d:Dev):Prop:=(0≤d.idx∧d.idx≤2147483648)∧(0≤d.par∧d.par≤2147483648)∧d.nm.size≤1000∧d.orig.size≤1000∧d.sub.size≤1000∧d.drv.size≤1000∧d.ali.size≤1000∧(0≤d.kind∧d.kind≤100)∧(0≤d.num∧d.num≤2147483648)∧fewA 24 d.attrs
theorem devFew.ok {d:Dev} (h:devFew d):devOk d:=by
 obtain ⟨A,B,C,D,E,F,G,H,I,-⟩:=h;unfold devOk okI maxLen;exact ⟨by omega,by omega,by omega,by omega,by omega,by omega,by omega,by omega,by omega⟩
def zeroD:Dev:=⟨0,0,⟨#[]⟩,⟨#[]⟩,⟨#[]⟩,⟨#[]⟩,⟨#[]⟩,0,0,[]⟩
end Go.Cold
