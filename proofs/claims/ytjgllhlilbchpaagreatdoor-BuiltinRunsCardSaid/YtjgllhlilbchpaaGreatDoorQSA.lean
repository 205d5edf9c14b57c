/-
  The plain side of layer 7: contents,and how they lie in memory. No program is named here.
-/
import Derived.Test.YtjgllhlilbchpaaGreatDoorQA
import Derived.Maps.AppendAt
import Derived.Test.YtjgllhlilbchpaaGreatDoorQTK
import Derived.Test.YtjgllhlilbchpaaGreatDoorQD
import Derived.Test.YtjgllhlilbchpaaGreatDoorRows
import Derived.Test.YtjgllhlilbchpaaGreatDoorQShf
import Derived.Deep.AppendLies
set_option linter.unusedSimpArgs false
set_option linter.unusedVariables false
namespace Go.Cold
open Go Go.RowKit

inductive Cont where
 | mk (kind:Int) (id label:ByteArray) (slot total least:Int) (inner:List Cont)

namespace Cont
def kind:Cont→Int | .mk k _ _ _ _ _ _=>k
def id:Cont→ByteArray | .mk _ i _ _ _ _ _=>i
def label:Cont→ByteArray | .mk _ _ l _ _ _ _=>l
def slot:Cont→Int | .mk _ _ _ s _ _ _=>s
def total:Cont→Int | .mk _ _ _ _ t _ _=>t
def least:Cont→Int | .mk _ _ _ _ _ e _=>e
def inner:Cont→List Cont | .mk _ _ _ _ _ _ xs=>xs
end Cont
def okInt (n:Int):Prop:=-9223372036854775808≤n∧n≤9223372036854775807
def contCells (k:Int) (i l:ByteArray) (s t e:Int) (A:Option Addr) (n c:Nat):List Value :=
 [.int .i64 k,.string i,.string l,.int .i64 s,.int .i64 t,.int .i64 e,.slice A n c]

mutual
def CRdS (w:World) (S:Nat→Prop):Cont→List Value→Prop
 | .mk k i l s t e xs,cs=>∃ A c,cs=contCells k i l s t e A xs.length c∧(okInt k∧i.size≤maxLen∧l.size≤maxLen∧okInt s∧okInt t∧okInt e)∧
   xs.length≤c∧c≤maxLen∧(0<xs.length→∃ b o,A=some ⟨b,o,none⟩∧S b∧CsAtS w S b xs o)
def CsAtS (w:World) (S:Nat→Prop) (b:Nat):List Cont→Nat→Prop
 | [],_=>True
 | x :: xs,o=>(∃ cs,CRdS w S x cs∧∀ j u,cs[j]? = some u→w.cell? ⟨b,o+j,none⟩=some u)∧CsAtS w S b xs (o+7)
end
def CRd (w:World) (B:Nat) (a:Cont) (cs:List Value):Prop:=CRdS w (fun b=>b<B) a cs
theorem CsAtS_iff {w:World} {S:Nat→Prop} {b:Nat}:∀ {xs:List Cont} {o:Nat},CsAtS w S b xs o↔∀ (i:Nat) x,xs[i]? = some x→∃ cs,CRdS w S x cs∧∀ j u,cs[j]? = some u→w.cell? ⟨b,o+(i * 7+j),none⟩=some u
 | [],o=>by rw [CsAtS];simp
 | y :: ys,o=>by
  rw [CsAtS,CsAtS_iff];constructor
  ·
   rintro ⟨⟨cs,h1,h2⟩,h3⟩ i x hx
   cases i with
   | zero =>
    simp at hx;subst hx
    exact ⟨cs,h1,fun j u hu=>by rw [show o+(0 * 7+j)=o+j by omega];exact h2 j u hu⟩
   | succ i =>
    obtain ⟨cs,h4,h5⟩:=h3 i x (by simpa using hx);exact ⟨cs,h4,fun j u hu=>by rw [show o+((i+1) * 7+j)=o+7+(i * 7+j) by omega];exact h5 j u hu⟩
  ·
   intro h
   refine ⟨?_,fun i x hx=>?_⟩
   ·
    obtain ⟨cs,h1,h2⟩:=h 0 y rfl
    exact ⟨cs,h1,fun j u hu=>by have:=h2 j u hu;rwa [show o+(0 * 7+j)=o+j by omega] at this⟩
   ·
    obtain ⟨cs,h1,h2⟩:=h (i+1) x (by simpa using hx)
    exact ⟨cs,h1,fun j u hu=>by have:=h2 j u hu;rwa [show o+((i+1) * 7+j)=o+7+(i * 7+j) by omega] at this⟩
theorem CRdS_len {w:World} {S:Nat→Prop} {a:Cont} {cs:List Value} (h:CRdS w S a cs):cs.length=7:=by
 cases a
 rw [CRdS] at h;obtain ⟨A,c,rfl,_⟩:=h;rfl
theorem CRdS_one {w:World} {S:Nat→Prop} {a:Cont} {cs:List Value} (h:CRdS w S a cs):∀ u ∈ cs,u.oneCell'=true:=by
 cases a
 rw [CRdS] at h;obtain ⟨A,c,rfl,_⟩:=h;intro u hu;simp only [contCells,List.mem_cons,List.not_mem_nil,or_false] at hu;rcases hu with rfl | rfl | rfl | rfl | rfl | rfl | rfl <;> rfl
theorem CRd_len {w:World} {B:Nat} {a:Cont} {cs:List Value} (h:CRd w B a cs):cs.length=7:=CRdS_len h
mutual
theorem CRdS_mono {w w':World} {S S':Nat→Prop} (hS:∀ b,S b→S' b) (hc:∀ b o u,S b→w.cell? ⟨b,o,none⟩=some u→w'.cell? ⟨b,o,none⟩=some u):∀ (a:Cont) (cs:List Value),CRdS w S a cs→CRdS w' S' a cs
 | .mk k i l s t e xs,cs,h=>by
  rw [CRdS] at h ⊢;obtain ⟨A,c,rfl,h1,h2,h3,h4⟩:=h;exact ⟨A,c,rfl,h1,h2,h3,fun hn=>by
   obtain ⟨b,o,e,hb,h5⟩:=h4 hn;exact ⟨b,o,e,hS b hb,CsAtS_mono hS hc b hb xs o h5⟩⟩
theorem CsAtS_mono {w w':World} {S S':Nat→Prop} (hS:∀ b,S b→S' b) (hc:∀ b o u,S b→w.cell? ⟨b,o,none⟩=some u→w'.cell? ⟨b,o,none⟩=some u) (b:Nat) (hb:S b):∀ (xs:List Cont) (o:Nat),CsAtS w S b xs o→CsAtS w' S' b xs o
 | [],o,_=>by rw [CsAtS];trivial
 | x :: xs,o,h=>by
  rw [CsAtS] at h ⊢;obtain ⟨⟨cs,h1,h2⟩,h3⟩:=h;exact ⟨⟨cs,CRdS_mono hS hc x cs h1,fun j u hu=>hc _ _ _ hb (h2 j u hu)⟩,CsAtS_mono hS hc b hb xs (o+7) h3⟩
end
theorem CRd_keep {w w':World} {B:Nat} (hb:Below B w w') (a:Cont) (cs:List Value) (h:CRd w B a cs):CRd w' B a cs :=
 CRdS_mono (fun _ h=>h) (fun b o u hlt hu=>(hb.cell (p:=⟨b,o,none⟩) (by exact hlt)).trans hu) a cs h
theorem CRd_more {w:World} {B B':Nat} (hB:B≤B') (a:Cont) (cs:List Value) (h:CRd w B a cs):CRd w B' a cs :=
 CRdS_mono (fun b (h:b<B)=>(by omega:b<B')) (fun _ _ _ _ hu=>hu) a cs h
instance:Rep Cont where
 size:=7
 rd:=CRd
 len:=CRd_len
 keep:=fun hb h=>CRd_keep hb _ _ h
 more:=fun hB h=>CRd_more hB _ _ h
theorem CRd_iff {w:World} {B:Nat} {k:Int} {i l:ByteArray} {s t e:Int} {xs:List Cont} {cs:List Value} :
  CRd w B (.mk k i l s t e xs) cs↔∃ A c,cs=contCells k i l s t e A xs.length c∧(okInt k∧i.size≤maxLen∧l.size≤maxLen∧okInt s∧okInt t∧okInt e)∧Sl w B A c xs:=by
 unfold CRd;rw [CRdS];constructor
 ·
  rintro ⟨A,c,h0,h1,h2,h3,h4⟩
  refine ⟨A,c,h0,h1,h2,h3,fun hn=>?_⟩;obtain ⟨b,o,e,hlt,h5⟩:=h4 hn;exact ⟨b,o,e,hlt,CsAtS_iff.1 h5⟩
 ·
  rintro ⟨A,c,h0,h1,h2,h3,h4⟩
  refine ⟨A,c,h0,h1,h2,h3,fun hn=>?_⟩;obtain ⟨b,o,e,hlt,h5⟩:=h4 hn;exact ⟨b,o,e,hlt,CsAtS_iff.2 h5⟩

noncomputable def sameC (a b:Cont):Bool:=open Classical in decide (a=b)
noncomputable def sameL (a b:List Cont):Bool:=open Classical in decide (a=b)
theorem sameC_iff {a b:Cont}:sameC a b=true↔a=b:=by unfold sameC;simp
theorem sameC_self (a:Cont):sameC a a=true:=sameC_iff.2 rfl
theorem sameC_mk {k k':Int} {i i' l l':ByteArray} {s s' t t' e e':Int} {xs xs':List Cont} :
  sameC (.mk k i l s t e xs) (.mk k' i' l' s' t' e' xs')=(k == k' && (decide (i=i') && (decide (l=l') && (s == s' && (t == t' && (e == e' && sameL xs xs')))))):=by
 rw [Bool.eq_iff_iff,sameC_iff];unfold sameL;simp

mutual
def depthC:Cont→Int
 | .mk k _ _ _ _ _ xs=>if k=0 then depthL xs else depthL xs+1
def depthL:List Cont→Int
 | []=>0
 | x :: xs=>max (depthC x) (depthL xs)
end
end Go.Cold
namespace Go.Cold
open Go Go.RowKit

def OwnsC (F:Nat→Prop) (w:World) (base:Nat) (e:TypeId) (v:Value) (xs:List Cont):Prop :=
 ∃ css:List (List Value),w.ownsRow base e 7 v xs.length css.flatten∧css.length=xs.length∧
  ∀ (i:Nat) (x:Cont) (cs:List Value),xs[i]? = some x→css[i]? = some cs→CRdS w (fun b=>F b∧b<w.heap.size∧v.ownBlock≠some b) x cs

theorem flatten_at {css:List (List Value)} (h7:∀ cs ∈ css,cs.length=7):∀ {i j:Nat} {cs:List Value},css[i]? = some cs→j<7→css.flatten[i * 7+j]? = cs[j]?:=by
 induction css with
 | nil=>intro i j cs h;simp at h
 | cons c r ih =>
  intro i j cs h hj;have hc:=h7 c List.mem_cons_self;rw [List.flatten_cons];cases i with
  | zero =>
   simp at h;subst h
   rw [List.getElem?_append_left (by omega),show 0 * 7+j=j by omega]
  | succ i =>
   rw [List.getElem?_append_right (by omega),show (i+1) * 7+j - c.length=i * 7+j by omega];exact ih (fun cs hcs=>h7 cs (List.mem_cons_of_mem _ hcs)) (by simpa using h) hj
section
variable {F:Nat→Prop} {w w':World} {base:Nat} {e:TypeId} {v:Value} {xs:List Cont}
theorem OwnsC.nil_ (F:Nat→Prop) (w:World) (base:Nat) (e:TypeId):OwnsC F w base e (.slice none 0 0) []:=⟨[],World.ownsRow_nil _ _ _ _,rfl,fun i x cs h=>by simp at h⟩
theorem OwnsC.below (h:OwnsC F w base e v xs) (hb:Below w.heap.size w w'):OwnsC F w' base e v xs:=by
 obtain ⟨css,h1,h2,h3⟩:=h;have hg:w.grownBy w' none:=⟨hb.os,hb.tape,hb.output,hb.size,fun k hk _=>hb.block k hk⟩;refine ⟨css,h1.kept hg (by
  cases hv:v.ownBlock with
  | none=>exact .inl rfl
  | some k=>exact .inr (by simp)),h2,fun i x cs hx hcs=>CRdS_mono (fun b ⟨hf,hb1,hb2⟩=>⟨hf,by have:=hb.size;omega,hb2⟩) (fun b o u ⟨_,hb1,_⟩ hu=>(hb.cell (p:=⟨b,o,none⟩) (by exact hb1)).trans hu) x cs (h3 i x cs hx hcs)⟩
theorem OwnsC.lt (h:OwnsC F w base e v xs):∀ k,v.ownBlock=some k→base≤k∧k<w.heap.size:=by
 obtain ⟨css,h1,_⟩:=h;exact h1.lt
theorem OwnsC.base_ {base':Nat} (h:OwnsC F w base e v xs) (hb:base'≤base):OwnsC F w base' e v xs:=by
 obtain ⟨css,h1,h2,h3⟩:=h;exact ⟨css,⟨h1.1,h1.2.imp id fun ⟨g,cap,cur,q1,q2,q3⟩=>⟨g,cap,cur,q1,Nat.le_trans hb q2,q3⟩⟩,h2,h3⟩
theorem OwnsC.app {v':Value} {x:Cont} {cs:List Value} {css:List (List Value)} (h1:w.ownsRow base e 7 v xs.length css.flatten) (h2:css.length=xs.length)
  (h3:∀ (i:Nat) (x:Cont) (cs:List Value),xs[i]? = some x→css[i]? = some cs→CRdS w (fun b=>F b∧b<w.heap.size∧v.ownBlock≠some b) x cs)
  (hx:CRdS w (fun b=>F b∧b<w.heap.size∧v.ownBlock≠some b) x cs) (hown:w'.ownsRow base e 7 v' (xs.length+1) (css.flatten ++ cs)) (hg:w.grownBy w' v.ownBlock)
  (hnew:∀ k,v'.ownBlock=some k→v.ownBlock=some k∨w.heap.size≤k):OwnsC F w' base e v' (xs ++ [x]):=by
 have hmono:∀ y ds,CRdS w (fun b=>F b∧b<w.heap.size∧v.ownBlock≠some b) y ds→CRdS w' (fun b=>F b∧b<w'.heap.size∧v'.ownBlock≠some b) y ds:=fun y ds =>
  CRdS_mono (fun b ⟨hf,hb1,hb2⟩=>⟨hf,by have:=hg.size;omega,fun e=>by
   rcases hnew b e with h | h
   · exact hb2 h
   · omega⟩) (fun b o u ⟨_,_,hb2⟩ hu=>hg.cell hu (fun e=>hb2 e.symm)) y ds
 refine ⟨css ++ [cs],by rw [List.length_append];simpa using hown,by simp [h2],fun i y ds hy hds=>?_⟩;by_cases hi:i<xs.length
 ·
  rw [List.getElem?_append_left hi] at hy
  rw [List.getElem?_append_left (by omega)] at hds;exact hmono y ds (h3 i y ds hy hds)
 ·
  rw [List.getElem?_append_right (by omega)] at hy hds
  rw [h2] at hds;have hi0:i - xs.length=0:=by
   have:=(List.getElem?_eq_some_iff.1 hy).1;simp at this;omega
  rw [hi0] at hy hds;simp at hy hds
  subst hy;subst hds;exact hmono _ _ hx
theorem OwnsC.appL {v':Value} {ys:List Cont} {css dss:List (List Value)} (h1:w.ownsRow base e 7 v xs.length css.flatten) (h2:css.length=xs.length)
  (h3:∀ (i:Nat) (x:Cont) (cs:List Value),xs[i]? = some x→css[i]? = some cs→CRdS w (fun b=>F b∧b<w.heap.size∧v.ownBlock≠some b) x cs)
  (h4:dss.length=ys.length) (h5:∀ (i:Nat) (y:Cont) (cs:List Value),ys[i]? = some y→dss[i]? = some cs→CRdS w (fun b=>F b∧b<w.heap.size∧v.ownBlock≠some b) y cs)
  (hown:w'.ownsRow base e 7 v' (xs.length+ys.length) (css.flatten ++ dss.flatten)) (hg:w.grownBy w' v.ownBlock)
  (hnew:∀ k,v'.ownBlock=some k→v.ownBlock=some k∨w.heap.size≤k):OwnsC F w' base e v' (xs ++ ys):=by
 have hmono:∀ y ds,CRdS w (fun b=>F b∧b<w.heap.size∧v.ownBlock≠some b) y ds→CRdS w' (fun b=>F b∧b<w'.heap.size∧v'.ownBlock≠some b) y ds:=fun y ds =>
  CRdS_mono (fun b ⟨hf,hb1,hb2⟩=>⟨hf,by have:=hg.size;omega,fun e=>by
   rcases hnew b e with h | h
   · exact hb2 h
   · omega⟩) (fun b o u ⟨_,_,hb2⟩ hu=>hg.cell hu (fun e=>hb2 e.symm)) y ds
 refine ⟨css ++ dss,by rw [List.length_append];simpa using hown,by simp [h2,h4],fun i y ds hy hds=>?_⟩;by_cases hi:i<xs.length
 ·
  rw [List.getElem?_append_left hi] at hy
  rw [List.getElem?_append_left (by omega)] at hds;exact hmono y ds (h3 i y ds hy hds)
 ·
  rw [List.getElem?_append_right (by omega)] at hy hds
  rw [h2] at hds;exact hmono y ds (h5 _ y ds hy hds)
theorem OwnsC.cs (h:OwnsC F w base e v xs):∃ A c,v=.slice A xs.length c∧xs.length≤c∧c≤maxLen∧(0<xs.length→∃ b o,A=some ⟨b,o,none⟩∧(base≤b∧b<w.heap.size)∧CsAtS w (fun b=>F b∧b<w.heap.size) b xs o):=by
 obtain ⟨css,h1,h2,h3⟩:=h;have h7:∀ cs ∈ css,cs.length=7:=fun cs hcs=>by
  obtain ⟨i,hi,rfl⟩:=List.getElem_of_mem hcs;exact CRdS_len (h3 i xs[i] css[i] (List.getElem?_eq_getElem (by omega)) (List.getElem?_eq_getElem hi))
 obtain ⟨_,h4⟩:=h1;rcases h4 with ⟨rfl,h0⟩ | ⟨g,cap,cur,rfl,hg,hh,hnc,hcm,hcs,htk⟩
 ·
  have:xs=[]:=List.eq_nil_of_length_eq_zero h0
  subst this;exact ⟨none,0,rfl,by simp,by simp [maxLen],fun h=>by simp at h⟩
 ·
  have hgl:g<w.heap.size:=(Array.getElem?_eq_some_iff.1 hh).1
  refine ⟨_,cap,rfl,hnc,hcm,fun _=>⟨g,0,rfl,⟨hg,hgl⟩,CsAtS_iff.2 fun i x hx=>?_⟩⟩;have hi:i<xs.length:=(List.getElem?_eq_some_iff.1 hx).1;have hci:css[i]? = some css[i]:=List.getElem?_eq_getElem (by omega);have hrd:=h3 i x css[i] hx hci;refine ⟨css[i],CRdS_mono (fun b ⟨hf,hb1,_⟩=>⟨hf,hb1⟩) (fun _ _ _ _ hu=>hu) x _ hrd,fun j u hu=>?_⟩;have hj:j<7:=by
   have:=(List.getElem?_eq_some_iff.1 hu).1;rw [CRdS_len hrd] at this;exact this
  rw [Nat.zero_add,cell_of_row w g (i * 7+j) cur e (0,0) hh];have:=flatten_at h7 hci hj;rw [← htk,List.getElem?_take,if_pos (by omega),hu] at this;simpa using this
theorem OwnsC.sl (h:OwnsC F w base e v xs):∃ A c,v=.slice A xs.length c∧Sl w w.heap.size A c xs:=by
 obtain ⟨A,c,hv,h1,h2,h3⟩:=h.cs;refine ⟨A,c,hv,h1,h2,fun hn=>?_⟩;obtain ⟨b,o,e,hb,hcs⟩:=h3 hn;exact ⟨b,o,e,hb.2,fun i x hx=>by
  obtain ⟨cs,h4,h5⟩:=CsAtS_iff.1 hcs i x hx;exact ⟨cs,CRdS_mono (fun _ h=>h.2) (fun _ _ _ _ hu=>hu) x cs h4,h5⟩⟩
theorem cell7_new (w:World) (t:TypeId) (k:Int) (i l:ByteArray) (s tt ee:Int) (A:Option Addr) (n c:Nat):∀ j u,(contCells k i l s tt ee A n c)[j]? = some u→
  (w.alloc (.cells #[.int .i64 k,.string i,.string l,.int .i64 s,.int .i64 tt,.int .i64 ee,.slice A n c] t)).cell? ((⟨w.heap.size,0,none⟩:Addr).add j)=some u:=by
 intro j u hj;rw [add_mk,Nat.zero_add,World.cell?_alloc_at _ _ _ _ rfl];simpa [contCells] using hj
end
mutual
def nodesC:Cont→Nat
 | .mk _ _ _ _ _ _ xs=>nodesL xs+1
def nodesL:List Cont→Nat
 | []=>0
 | x :: xs=>nodesC x+nodesL xs
end
theorem nodesL_mem:∀ {xs:List Cont} {x:Cont},x ∈ xs→nodesC x≤nodesL xs
 | y :: ys,x,h=>by
  rw [nodesL];rcases List.mem_cons.1 h with rfl | h
  · omega
  · have:=nodesL_mem h;omega
mutual
def walkC:Cont→List Cont
 | .mk k i l s t e xs=>.mk k i l s t e xs :: walkL xs
def walkL:List Cont→List Cont
 | []=>[]
 | x :: xs=>walkC x ++ walkL xs
end
theorem walkL_app (x:Cont):∀ xs:List Cont,walkL (xs ++ [x])=walkL xs ++ walkC x
 | []=>by rw [List.nil_append,walkL,walkL,walkL,List.append_nil,List.nil_append]
 | y :: ys=>by rw [List.cons_append,walkL,walkL,walkL_app x ys,List.append_assoc]
mutual
theorem walkC_length:∀ a:Cont,(walkC a).length=nodesC a
 | .mk k i l s t e xs=>by rw [walkC,nodesC,List.length_cons,walkL_length xs]
theorem walkL_length:∀ xs:List Cont,(walkL xs).length=nodesL xs
 | []=>by rw [walkL,nodesL];rfl
 | x :: xs=>by rw [walkL,nodesL,List.length_append,walkC_length x,walkL_length xs]
end
theorem nodesL_app (x:Cont):∀ xs:List Cont,nodesL (xs ++ [x])=nodesL xs+nodesC x
 | []=>by rw [List.nil_append,nodesL,nodesL,nodesL];omega
 | y :: ys=>by rw [List.cons_append,nodesL,nodesL,nodesL_app x ys];omega
theorem nodesL_take:∀ (xs:List Cont) (k:Nat),nodesL (xs.take k)≤nodesL xs
 | [],k=>by simp
 | x :: xs,0=>by rw [List.take_zero,nodesL];omega
 | x :: xs,k+1=>by
  have:=nodesL_take xs k;rw [List.take_succ_cons,nodesL,nodesL];omega
theorem nodesC_pos (a:Cont):0<nodesC a:=by cases a;rw [nodesC];omega
theorem nodesL_length:∀ xs:List Cont,xs.length≤nodesL xs
 | []=>by simp
 | x :: xs=>by
  have:=nodesL_length xs;have:=nodesC_pos x;rw [nodesL,List.length_cons];omega
end Go.Cold
namespace Go.Cold
open Go Go.RowKit
noncomputable def szC (a:Cont):Nat:=SizeOf.sizeOf a
theorem szC_mem {k:Int} {i l:ByteArray} {s t e:Int} {xs:List Cont} {x:Cont} (h:x ∈ xs):szC x<szC (.mk k i l s t e xs):=by
 have:=List.sizeOf_lt_of_mem h;unfold szC;simp only [Cont.mk.sizeOf_spec];omega
theorem depthL_app (x:Cont):∀ xs:List Cont,depthL (xs ++ [x])=max (depthL xs) (depthC x)
 | []=>by rw [List.nil_append,depthL,depthL,depthL,Int.max_comm]
 | y :: ys=>by rw [List.cons_append,depthL,depthL,depthL_app x ys,Int.max_assoc]
theorem depthL_mem:∀ {xs:List Cont} {x:Cont},x ∈ xs→depthC x≤depthL xs
 | y :: ys,x,h=>by
  rw [depthL];rcases List.mem_cons.1 h with rfl | h
  · omega
  · have:=depthL_mem h;omega
mutual
theorem depthC_nonneg:∀ a:Cont,0≤depthC a
 | .mk k _ _ _ _ _ xs=>by
  have:=depthL_nonneg xs;rw [depthC];split <;> omega
theorem depthL_nonneg:∀ xs:List Cont,0≤depthL xs
 | []=>by rw [depthL];omega
 | x :: xs=>by
  have:=depthC_nonneg x;have:=depthL_nonneg xs;rw [depthL];omega
end
theorem depthL_le {k:Int} {i l:ByteArray} {s t e:Int} {xs:List Cont}:depthL xs≤depthC (.mk k i l s t e xs):=by
 rw [depthC];split <;> omega
def Cells7 (w:World) (b o:Nat) (k:Int) (i l:ByteArray) (s t e:Int) (A:Option Addr) (n c:Nat):Prop :=
 w.cell? ⟨b,o,none⟩=some (.int .i64 k)∧w.cell? ⟨b,o+1,none⟩=some (.string i)∧w.cell? ⟨b,o+2,none⟩=some (.string l)∧w.cell? ⟨b,o+3,none⟩=some (.int .i64 s)∧
  w.cell? ⟨b,o+4,none⟩=some (.int .i64 t)∧w.cell? ⟨b,o+5,none⟩=some (.int .i64 e)∧w.cell? ⟨b,o+6,none⟩=some (.slice A n c)
theorem cells7 {w:World} {b o:Nat} {k:Int} {i l:ByteArray} {s t e:Int} {A:Option Addr} {n c:Nat} (h:∀ j u,(contCells k i l s t e A n c)[j]? = some u→w.cell? ⟨b,o+j,none⟩=some u) :
  Cells7 w b o k i l s t e A n c :=
 ⟨h 0 _ rfl,h 1 _ rfl,h 2 _ rfl,h 3 _ rfl,h 4 _ rfl,h 5 _ rfl,h 6 _ rfl⟩
theorem Cells7.keep {w w':World} {B b o:Nat} {k:Int} {i l:ByteArray} {s t e:Int} {A:Option Addr} {n c:Nat} (h:Cells7 w b o k i l s t e A n c) (hb:Below B w w') (hlt:b<B):Cells7 w' b o k i l s t e A n c:=by
 obtain ⟨h0,h1,h2,h3,h4,h5,h6⟩:=h;exact ⟨(hb.cell (by exact hlt)).trans h0,(hb.cell (by exact hlt)).trans h1,(hb.cell (by exact hlt)).trans h2,(hb.cell (by exact hlt)).trans h3,(hb.cell (by exact hlt)).trans h4,(hb.cell (by exact hlt)).trans h5,(hb.cell (by exact hlt)).trans h6⟩
theorem Cells7.zero {w:World} {b:Nat} {k:Int} {i l:ByteArray} {s t e:Int} {A:Option Addr} {n c:Nat} (h:Cells7 w b 0 k i l s t e A n c) :
  w.cell? ⟨b,0,none⟩=some (.int .i64 k)∧w.cell? ⟨b,1,none⟩=some (.string i)∧w.cell? ⟨b,2,none⟩=some (.string l)∧w.cell? ⟨b,3,none⟩=some (.int .i64 s)∧
  w.cell? ⟨b,4,none⟩=some (.int .i64 t)∧w.cell? ⟨b,5,none⟩=some (.int .i64 e)∧w.cell? ⟨b,6,none⟩=some (.slice A n c):=by
 obtain ⟨h0,h1,h2,h3,h4,h5,h6⟩:=h;exact ⟨h0,by simpa using h1,by simpa using h2,by simpa using h3,by simpa using h4,by simpa using h5,by simpa using h6⟩
theorem box7 {w w0:World} {ty:TypeId} {k:Int} {i l:ByteArray} {s t e:Int} {A:Option Addr} {n c:Nat}
  (h:w.alloc (.cells #[.int .i64 k,.string i,.string l,.int .i64 s,.int .i64 t,.int .i64 e,.slice A n c] ty)=w0) :
  Below w.heap.size w w0∧w0.heap.size=w.heap.size+1∧Cells7 w0 w.heap.size 0 k i l s t e A n c:=by
 subst h;refine ⟨(Below.refl _ _).alloc (Nat.le_refl _) _,by simp,?_⟩;refine ⟨?_,?_,?_,?_,?_,?_,?_⟩ <;> (rw [World.cell?_alloc_at _ _ _ _ rfl];rfl)
theorem Sl.cont {w:World} {B c:Nat} {A:Option Addr} {xs:List Cont} (h:Sl w B A c xs) {i:Nat} (hi:i<xs.length) :
  ∃ b o,A=some ⟨b,o,none⟩∧b<B∧∃ cs,CRd w B xs[i] cs∧∀ j u,cs[j]? = some u→w.cell? ⟨b,o+i * 7+j,none⟩=some u:=by
 obtain ⟨b,o,e,hlt,cs,hr,hc⟩:=h.at_ hi;exact ⟨b,o,e,hlt,cs,hr,fun j u hu=>by have:=hc j u hu;rwa [← Nat.add_assoc] at this⟩
end Go.Cold
namespace Go.Proofs.YtjgllhlilbchpaaGreatDoor
open Go.RowKit Go.Cold

set_option maxRecDepth 100000 in
theorem Depth_all (N:Nat):∀ (a:Cont) (cs:List Value) (w:World),szC a<N→CRd w w.heap.size a cs→depthC a≤2 ^ 60→Calls Tryz.prog 145 #[.agg cs.toArray] w fun e w'=>e=.returned (.int .i64 (depthC a))∧Below w.heap.size w w':=by
 induction N with
 | zero=>intro a cs w h;omega
 | succ N ih =>
  intro a cs w hsz hrd hdep;obtain ⟨kk,i,l,s,t,e,xs⟩:=a;obtain ⟨A,c,rfl,hok,hsl⟩:=CRd_iff.1 hrd;clear hrd;have IH:=Lh_ ih;clear ih;have hx1:=hsl.1;have hx2:=hsl.2.1;unfold maxLen at hx2;have HSl:=Lh_ hsl;clear hsl;have HSZ:=Lh_ hsz;clear hsz;have HD:=Lh_ hdep;clear hdep;have HOK:=Lh_ hok;clear hok;simp only [contCells];obtain ⟨w0,hw0⟩:∃ w0,w.alloc (.cells #[.int .i64 kk,.string i,.string l,.int .i64 s,.int .i64 t,.int .i64 e,.slice A xs.length c] 72)=w0:=⟨_,rfl⟩;obtain ⟨hb0,hg0,hbox⟩:=box7 hw0;obtain ⟨d0,d1,d2,d3,d4,d5,d6⟩:=hbox.zero;go_enter Tryz.func145,Tryz.ntmps145;go_wp2_with fail;have HBOX:=Lh_ hbox;clear hbox hw0 d0 d1 d2 d3 d4 d5 d6;generalize hgg:w.heap.size=g at *;go_loopw [3,9] (fun d i wr=>∃ k:Nat,k≤xs.length∧i=.int .i64 k∧d=.int .i64 (depthL (xs.take k))∧Below w0.heap.size w0 wr) (fun _ i _=>xs.length - (intOf i).toNat)
  case atStart=>exact ⟨0,Nat.zero_le _,rfl,by simp [depthL],Below.refl _ _⟩
  case round =>
   obtain ⟨k,hk,rfl,rfl,hb⟩:=hrel;have hbw:Below g w wr:=hb0.trans (hb.mono (by omega));by_cases hlt:k<xs.length
   ·
    have hslr:=HSl.out.next (by omega) (hgg ▸ hbw)
    obtain ⟨b3,o3,rfl,hb3,cs,hcs,hcells⟩:=hslr.cont hlt;obtain ⟨x,hx⟩:∃ x,xs[k]=x:=⟨_,rfl⟩;have hxm:x ∈ xs:=hx ▸ List.getElem_mem hlt;have htk:xs.take (k+1)=xs.take k ++ [x]:=by rw [← hx];exact List.take_succ_eq_append_getElem hlt
    rw [hx] at hcs;clear hslr;have hszx:=szC_mem (k:=kk) (i:=i) (l:=l) (s:=s) (t:=t) (e:=e) hxm;have hdx:depthC x≤2 ^ 60:=Int.le_trans (Int.le_trans (depthL_mem hxm) depthL_le) HD.out;obtain ⟨kk2,i2,l2,s2,t2,e2,xs2⟩:=x;obtain ⟨A2,c2,rfl,hok2,hsl2⟩:=CRd_iff.1 hcs;obtain ⟨c0,c1,c2',c3,c4,c5,c6⟩:=cells7 hcells;have i1:(k:Int)<(xs.length:Int):=by omega
    obtain ⟨w1,hw1⟩:∃ w1,wr.alloc (.cells #[.int .i64 kk2,.string i2,.string l2,.int .i64 s2,.int .i64 t2,.int .i64 e2,.slice A2 xs2.length c2] 72)=w1:=⟨_,rfl⟩;obtain ⟨hb1,hg1,hbox1⟩:=box7 hw1;obtain ⟨f0,f1,f2,f3,f4,f5,f6⟩:=hbox1.zero;have hcall:=IH.out (.mk kk2 i2 l2 s2 t2 e2 xs2) _ w1 (by have:=HSZ.out;omega) (CRd_more (by omega) _ _ (CRd_keep hb1 _ _ hcs)) hdx;clear hcells hcs hok2 hsl2 hx hxm hdx hszx;have HCALL:=Lh_ hcall;clear hcall;have HTK:=Lh_ htk;clear htk;go_wp2_with fail;refine HCALL.out.mono ?_;rintro e' w2 ⟨rfl,hb2⟩;have hdep:depthL (xs.take (k+1))=max (depthL (xs.take k)) (depthC (.mk kk2 i2 l2 s2 t2 e2 xs2)):=by rw [HTK.out,depthL_app]
    have hbn:Below w0.heap.size w0 w2:=hb.trans ((hb1.trans (hb2.mono hb1.size)).mono hb.size);obtain ⟨z,hz⟩:∃ z,depthC (.mk kk2 i2 l2 s2 t2 e2 xs2)=z:=⟨_,rfl⟩;rw [hz] at hdep ⊢;obtain ⟨y,hy⟩:∃ y,depthL (xs.take k)=y:=⟨_,rfl⟩;rw [hy] at hdep ⊢;have HDEP:=Lh_ hdep;clear hdep hz hy;clear c0 c1 c2' c3 c4 c5 c6 f0 f1 f2 f3 f4 f5 f6 hw1 hbox1;go_wp2;go_roundw
    case rel=>exact ⟨k+1,by omega,by go_num,by rw [HDEP.out],hbn⟩
    case measure=>simp [intOf];omega
   ·
    have hkk:k=xs.length:=by omega
    subst hkk;obtain ⟨d0,d1,d2,d3,d4,d5,d6⟩:=(HBOX.out.keep hb (by omega)).zero;rw [List.take_length];have hd3:=depthL_nonneg xs;by_cases hk0:kk=0
    ·
     have hd:depthL xs=depthC (.mk kk i l s t e xs):=by rw [depthC,if_pos hk0]
     obtain ⟨y,hy⟩:∃ y,depthL xs=y:=⟨_,rfl⟩;rw [hy] at hd ⊢;have HDD:=Lh_ hd;clear hd hy hd3;have hk1:(kk == 0)=true:=by simpa using hk0
     go_wp2;go_ret;exact ⟨ret_int HDD.out,by rw [hgg];exact hbw⟩
    ·
     have hd:depthL xs+1=depthC (.mk kk i l s t e xs):=by rw [depthC,if_neg hk0]
     have hd2:=HD.out;rw [← hd] at hd2;obtain ⟨y,hy⟩:∃ y,depthL xs=y:=⟨_,rfl⟩;rw [hy] at hd hd2 hd3 ⊢;have HDD:=Lh_ hd;clear hd hy;have hk1:(kk == 0)=false:=by simpa using hk0
     go_wp2;go_ret;exact ⟨ret_int (by rw [← HDD.out]),by rw [hgg];exact hbw⟩
theorem Depth_any (a:Cont) (cs:List Value) (w:World) (h:CRd w w.heap.size a cs) (hd:depthC a≤2 ^ 60):Calls Tryz.prog 145 #[.agg cs.toArray] w fun e w'=>e=.returned (.int .i64 (depthC a))∧Below w.heap.size w w' :=
 Depth_all _ a cs w (Nat.lt_succ_self _) h hd
end Go.Proofs.YtjgllhlilbchpaaGreatDoor
namespace Go.Cold
open Go Go.RowKit
mutual
def depthR:Cont→Int
 | .mk k _ _ _ _ _ xs=>if k=0 then 0 else depthRL xs+1
def depthRL:List Cont→Int
 | []=>0
 | x :: xs=>max (depthR x) (depthRL xs)
end
mutual
theorem depthR_nonneg:∀ a:Cont,0≤depthR a
 | .mk k _ _ _ _ _ xs=>by
  have:=depthRL_nonneg xs;rw [depthR];split <;> omega
theorem depthRL_nonneg:∀ xs:List Cont,0≤depthRL xs
 | []=>by rw [depthRL];omega
 | x :: xs=>by
  have:=depthR_nonneg x;have:=depthRL_nonneg xs;rw [depthRL];omega
end
mutual
theorem depthR_le_C:∀ a:Cont,depthR a≤depthC a
 | .mk k _ _ _ _ _ xs=>by
  have:=depthRL_le_L xs;have:=depthL_nonneg xs;rw [depthR,depthC];split <;> omega
theorem depthRL_le_L:∀ xs:List Cont,depthRL xs≤depthL xs
 | []=>by rw [depthRL,depthL];omega
 | x :: xs=>by
  have:=depthR_le_C x;have:=depthRL_le_L xs;rw [depthRL,depthL];omega
end
end Go.Cold
namespace Go.Proofs.YtjgllhlilbchpaaGreatDoor
open Go.RowKit Go.Cold

end Go.Proofs.YtjgllhlilbchpaaGreatDoor
namespace Go.Proofs.YtjgllhlilbchpaaGreatDoor
open Go.RowKit Go.Cold

def SameP (N:Nat):Prop:=∀ (a b:Cont) (csa csb:List Value) (w:World),szC a<N→CRd w w.heap.size a csa→CRd w w.heap.size b csb→
 Calls Tryz.prog 177 #[.agg csa.toArray,.agg csb.toArray] w fun e w'=>e=.returned (.bool (sameC a b))∧Below w.heap.size w w'

theorem sameL_len {xs ys:List Cont} (h:¬ xs.length=ys.length):sameL xs ys=false:=by
 unfold sameL;simp;rintro rfl;exact h rfl
theorem sameL_all {xs ys:List Cont} {k:Nat} (h:xs.take k=ys.take k) (hx:xs.length≤k) (hy:ys.length≤k):sameL xs ys=true:=by
 unfold sameL;simp;exact take_all h hx hy
theorem sameL_at {xs ys:List Cont} {k:Nat} {x y:Cont} (hx:xs[k]? = some x) (hy:ys[k]? = some y) (h:sameC x y=false):sameL xs ys=false:=by
 unfold sameL;simp;rintro rfl;rw [hx] at hy;obtain rfl:=Option.some.inj hy;rw [sameC_self] at h;cases h
theorem take_same {xs ys:List Cont} {k:Nat} {x y:Cont} (h:xs.take k=ys.take k) (hx:xs[k]? = some x) (hy:ys[k]? = some y) (hs:sameC x y=true):xs.take (k+1)=ys.take (k+1):=by
 obtain rfl:=sameC_iff.1 hs;rw [List.take_add_one,List.take_add_one,hx,hy,h]

set_option maxRecDepth 100000 in
theorem EqualFunc_of (N:Nat) (hN:SameP N) (A B:Option Addr) (c d:Nat) (xs ys:List Cont) (w:World) (hsz:∀ x ∈ xs,szC x<N) (hx:Sl w w.heap.size A c xs) (hy:Sl w w.heap.size B d ys) :
  Calls Tryz.prog 199 #[.slice A xs.length c,.slice B ys.length d,.func (.func 177) #[] #[]] w fun e w'=>e=.returned (.bool (sameL xs ys))∧Below w.heap.size w w':=by
 have hx1:=hx.1;have hx2:=hx.2.1;have hy1:=hy.1;have hy2:=hy.2.1;unfold maxLen at hx2 hy2;have HN:=Lh_ hN;clear hN;have HSZ:=Lh_ hsz;clear hsz;have HX:=Lh_ hx;clear hx;have HY:=Lh_ hy;clear hy;have hen:∀ args w,(callFunc 177 args).run Tryz.prog w=.ok (.enter 177 args) w:=enters_of Tryz.func177 (by kernel_rfl) rfl;by_cases hlen:xs.length=ys.length
 ·
  have HL:=Lh_ hlen
  go_enter Tryz.func199,Tryz.ntmps199;go_wp2_with fail;clear hlen;generalize hgg:w.heap.size=g at *;go_loopw [17] (fun i wr=>∃ k:Nat,k≤xs.length∧i=.int .i64 k∧Hid (xs.take k=ys.take k)∧Below g w wr) (fun i _=>xs.length - (intOf i).toNat)
  case atStart=>exact ⟨0,Nat.zero_le _,rfl,rfl,Below.refl _ _⟩
  case round =>
   obtain ⟨k,hk,rfl,HT,hbw⟩:=hrel;by_cases hlt:k<xs.length
   ·
    have hlty:k<ys.length:=by have:=HL.out;omega
    obtain ⟨b3,o3,rfl,hb3,cs,hcs,hcells⟩:=(HX.out.next (by omega) (hgg ▸ hbw)).cont hlt;obtain ⟨b4,o4,rfl,hb4,ds,hds,hdells⟩:=(HY.out.next (by omega) (hgg ▸ hbw)).cont hlty;obtain ⟨x,hx⟩:∃ x,xs[k]=x:=⟨_,rfl⟩;obtain ⟨y,hy⟩:∃ y,ys[k]=y:=⟨_,rfl⟩;have hxm:x ∈ xs:=hx ▸ List.getElem_mem hlt;have hxk:xs[k]? = some x:=by rw [← hx];exact List.getElem?_eq_getElem hlt
    have hyk:ys[k]? = some y:=by rw [← hy];exact List.getElem?_eq_getElem hlty
    rw [hx] at hcs;rw [hy] at hds;have hszx:=HSZ.out x hxm;have HXK:=Lh_ hxk;have HYK:=Lh_ hyk;clear hxk hyk hx hy hxm;obtain ⟨kk2,i2,l2,s2,t2,e2,xs2⟩:=x;obtain ⟨A2,c2,rfl,-,-⟩:=CRd_iff.1 hcs;obtain ⟨kk3,i3,l3,s3,t3,e3,xs3⟩:=y;obtain ⟨A3,c3,rfl,-,-⟩:=CRd_iff.1 hds;obtain ⟨w1,hw1⟩:∃ w1,wr.alloc (.cells #[.int .i64 kk2,.string i2,.string l2,.int .i64 s2,.int .i64 t2,.int .i64 e2,.slice A2 xs2.length c2] 72)=w1:=⟨_,rfl⟩;obtain ⟨w2,hw2⟩:∃ w2,w1.alloc (.cells #[.int .i64 kk3,.string i3,.string l3,.int .i64 s3,.int .i64 t3,.int .i64 e3,.slice A3 xs3.length c3] 72)=w2:=⟨_,rfl⟩;obtain ⟨hb1,hg1,hbox1⟩:=box7 hw1;obtain ⟨hb2,hg2,hbox2⟩:=box7 hw2;rw [hg1] at hbox2;obtain ⟨c0,c1,c2',c3',c4,c5,c6⟩:=cells7 hcells;obtain ⟨d0,d1,d2,d3,d4,d5,d6⟩:=(cells7 hdells).keep hb1 hb4;obtain ⟨f0,f1,f2,f3,f4,f5,f6⟩:=(hbox1.keep hb2 (by omega)).zero;obtain ⟨g0,g1,g2,g3,g4,g5,g6⟩:=hbox2.zero;have hb12:Below wr.heap.size wr w2:=hb1.trans (hb2.mono (by omega));have i1:(k:Int)<(xs.length:Int):=by omega
    have i2':(k:Int)<(ys.length:Int):=by omega
    have hcall:=HN.out (.mk kk2 i2 l2 s2 t2 e2 xs2) (.mk kk3 i3 l3 s3 t3 e3 xs3) _ _ w2 hszx (CRd_more (by omega) _ _ (CRd_keep hb12 _ _ hcs)) (CRd_more (by omega) _ _ (CRd_keep hb12 _ _ hds));have HCALL:=Lh_ hcall;clear hcall hcells hdells hcs hds hszx;go_wp2_with fail;refine HCALL.out.mono ?_;rintro e' w3 ⟨rfl,hb3'⟩;have hbn:Below g w w3:=hbw.trans ((hb12.trans (hb3'.mono hb12.size)).mono (by have:=hbw.size;omega));clear c0 c1 c2' c3' c4 c5 c6 d0 d1 d2 d3 d4 d5 d6 f0 f1 f2 f3 f4 f5 f6 g0 g1 g2 g3 g4 g5 g6 hw1 hw2;cases hs:sameC (.mk kk2 i2 l2 s2 t2 e2 xs2) (.mk kk3 i3 l3 s3 t3 e3 xs3) with
    | true =>
     have HS:=Lh_ hs;clear hs;go_wp2;go_roundw
     case rel=>exact ⟨k+1,by omega,by go_num,take_same HT.out HXK.out HYK.out HS.out,hbn⟩
     case measure=>simp [intOf];omega
    | false =>
     have HS:=Lh_ hs;clear hs;go_wp2;go_ret;exact ⟨ret_bool (sameL_at HXK.out HYK.out HS.out).symm,by rw [hgg];exact hbn⟩
   ·
    have i2':¬ (k:Int)<(ys.length:Int):=by have:=HL.out;omega
    go_wp2;go_ret;exact ⟨ret_bool (sameL_all HT.out (by omega) (by have:=HL.out;omega)).symm,by first | exact hbw | (rw [hgg];exact hbw)⟩
 ·
  have hs:=sameL_len hlen
  have HS:=Lh_ hs;clear hs;have hlen':¬ (xs.length:Int)=ys.length:=by omega
  go_enter Tryz.func199,Tryz.ntmps199;go_wp2;go_ret;exact ⟨ret_bool HS.out.symm,Below.refl _ _⟩

set_option maxRecDepth 100000 in
theorem Same_all (N:Nat):SameP N:=by
 induction N with
 | zero=>intro a b csa csb w h;omega
 | succ N ih =>
  intro a b csa csb w hsz ha hb;obtain ⟨k1,i1,l1,s1,t1,e1,xs⟩:=a;obtain ⟨k2,i2,l2,s2,t2,e2,ys⟩:=b;obtain ⟨A,c,rfl,-,hx⟩:=CRd_iff.1 ha;obtain ⟨B,d,rfl,-,hy⟩:=CRd_iff.1 hb;clear ha hb;have hmem:∀ x ∈ xs,szC x<N:=fun x hxm=>by have:=szC_mem (k:=k1) (i:=i1) (l:=l1) (s:=s1) (t:=t1) (e:=e1) hxm;omega
  simp only [contCells];obtain ⟨w1,hw1⟩:∃ w1,w.alloc (.cells #[.int .i64 k1,.string i1,.string l1,.int .i64 s1,.int .i64 t1,.int .i64 e1,.slice A xs.length c] 72)=w1:=⟨_,rfl⟩;obtain ⟨w2,hw2⟩:∃ w2,w1.alloc (.cells #[.int .i64 k2,.string i2,.string l2,.int .i64 s2,.int .i64 t2,.int .i64 e2,.slice B ys.length d] 72)=w2:=⟨_,rfl⟩;obtain ⟨hb1,hg1,hbox1⟩:=box7 hw1;obtain ⟨hb2,hg2,hbox2⟩:=box7 hw2;rw [hg1] at hbox2;obtain ⟨f0,f1,f2,f3,f4,f5,f6⟩:=(hbox1.keep hb2 (by omega)).zero;obtain ⟨g0,g1,g2,g3,g4,g5,g6⟩:=hbox2.zero;have hb12:Below w.heap.size w w2:=hb1.trans (hb2.mono (by omega));have hcall:=EqualFunc_of N ih A B c d xs ys w2 hmem ((hx.keep hb12).more (by omega)) ((hy.keep hb12).more (by omega));have HCALL:=Lh_ hcall;have hmk:=@sameC_mk k1 k2 i1 i2 l1 l2 s1 s2 t1 t2 e1 e2 xs ys;clear hcall ih hmem hx hy hsz hbox1 hbox2;by_cases q0:(k1 == k2)=true
  ·
   by_cases q1:i1=i2
   ·
    by_cases q2:l1=l2
    ·
     by_cases q3:(s1 == s2)=true
     ·
      by_cases q4:(t1 == t2)=true
      ·
       by_cases q5:(e1 == e2)=true
       ·
        rw [q0,q3,q4,q5,decide_eq_true q1,decide_eq_true q2] at hmk
        simp only [Bool.true_and] at hmk;have HMK:=Lh_ hmk;clear hmk;have p1:(i1.toList == i2.toList)=true:=by rw [ba_beq];exact decide_eq_true q1
        have p2:(l1.toList == l2.toList)=true:=by rw [ba_beq];exact decide_eq_true q2
        have Q1:=Lh_ q1;have Q2:=Lh_ q2;clear q1 q2;go_enter Tryz.func177,Tryz.ntmps177;go_wp2_with fail;refine HCALL.out.mono ?_;rintro e' w3 ⟨rfl,hb3⟩;obtain ⟨z,hz⟩:∃ z,sameL xs ys=z:=⟨_,rfl⟩;rw [hz];have HZ:=Lh_ hz;clear hz;go_wp2;go_ret;exact ⟨ret_bool (by rw [HMK.out,HZ.out]),hb12.trans (hb3.mono hb12.size)⟩
       ·
        have q5':(e1 == e2)=false:=by simpa using q5
        have hf:sameC (.mk k1 i1 l1 s1 t1 e1 xs) (.mk k2 i2 l2 s2 t2 e2 ys)=false:=by rw [hmk,q5'];simp
        have HF:=Lh_ hf;clear hf hmk q5;have p1:(i1.toList == i2.toList)=true:=by rw [ba_beq];exact decide_eq_true q1
        have p2:(l1.toList == l2.toList)=true:=by rw [ba_beq];exact decide_eq_true q2
        have Q1:=Lh_ q1;have Q2:=Lh_ q2;clear q1 q2;go_enter Tryz.func177,Tryz.ntmps177;go_wp2;go_ret;exact ⟨ret_bool HF.out.symm,hb12⟩
      ·
       have q4':(t1 == t2)=false:=by simpa using q4
       have hf:sameC (.mk k1 i1 l1 s1 t1 e1 xs) (.mk k2 i2 l2 s2 t2 e2 ys)=false:=by rw [hmk,q4'];simp
       have HF:=Lh_ hf;clear hf hmk q4;have p1:(i1.toList == i2.toList)=true:=by rw [ba_beq];exact decide_eq_true q1
       have p2:(l1.toList == l2.toList)=true:=by rw [ba_beq];exact decide_eq_true q2
       have Q1:=Lh_ q1;have Q2:=Lh_ q2;clear q1 q2;go_enter Tryz.func177,Tryz.ntmps177;go_wp2;go_ret;exact ⟨ret_bool HF.out.symm,hb12⟩
     ·
      have q3':(s1 == s2)=false:=by simpa using q3
      have hf:sameC (.mk k1 i1 l1 s1 t1 e1 xs) (.mk k2 i2 l2 s2 t2 e2 ys)=false:=by rw [hmk,q3'];simp
      have HF:=Lh_ hf;clear hf hmk q3;have p1:(i1.toList == i2.toList)=true:=by rw [ba_beq];exact decide_eq_true q1
      have p2:(l1.toList == l2.toList)=true:=by rw [ba_beq];exact decide_eq_true q2
      have Q1:=Lh_ q1;have Q2:=Lh_ q2;clear q1 q2;go_enter Tryz.func177,Tryz.ntmps177;go_wp2;go_ret;exact ⟨ret_bool HF.out.symm,hb12⟩
    ·
     have hf:sameC (.mk k1 i1 l1 s1 t1 e1 xs) (.mk k2 i2 l2 s2 t2 e2 ys)=false:=by rw [hmk,decide_eq_false q2];simp
     have HF:=Lh_ hf;clear hf hmk;have p1:(i1.toList == i2.toList)=true:=by rw [ba_beq];exact decide_eq_true q1
     have p2:(l1.toList == l2.toList)=false:=by rw [ba_beq];exact decide_eq_false q2
     have Q1:=Lh_ q1;clear q1 q2;go_enter Tryz.func177,Tryz.ntmps177;go_wp2;go_ret;exact ⟨ret_bool HF.out.symm,hb12⟩
   ·
    have hf:sameC (.mk k1 i1 l1 s1 t1 e1 xs) (.mk k2 i2 l2 s2 t2 e2 ys)=false:=by rw [hmk,decide_eq_false q1];simp
    have HF:=Lh_ hf;clear hf hmk;have p1:(i1.toList == i2.toList)=false:=by rw [ba_beq];exact decide_eq_false q1
    clear q1;go_enter Tryz.func177,Tryz.ntmps177;go_wp2;go_ret;exact ⟨ret_bool HF.out.symm,hb12⟩
  ·
   have q0':(k1 == k2)=false:=by simpa using q0
   have hf:sameC (.mk k1 i1 l1 s1 t1 e1 xs) (.mk k2 i2 l2 s2 t2 e2 ys)=false:=by rw [hmk,q0'];simp
   have HF:=Lh_ hf;clear hf hmk q0;go_enter Tryz.func177,Tryz.ntmps177;go_wp2;go_ret;exact ⟨ret_bool HF.out.symm,hb12⟩
theorem Same_any (a b:Cont) (csa csb:List Value) (w:World) (ha:CRd w w.heap.size a csa) (hb:CRd w w.heap.size b csb) :
  Calls Tryz.prog 177 #[.agg csa.toArray,.agg csb.toArray] w fun e w'=>e=.returned (.bool (sameC a b))∧Below w.heap.size w w' :=
 Same_all _ a b csa csb w (Nat.lt_succ_self _) ha hb
end Go.Proofs.YtjgllhlilbchpaaGreatDoor
namespace Go.Proofs.YtjgllhlilbchpaaGreatDoor
open Go.RowKit Go.Cold

theorem info_cont:(Tryz.prog.info? 72).map (fun i=>(i.zero,i.size,i.bytes))=some (some (.agg #[.int .i64 0,.string ByteArray.empty,.string ByteArray.empty,.int .i64 0,.int .i64 0,.int .i64 0,.slice none 0 0]),7,88):=by kernel_rfl

theorem info_cont2:(Tryz.prog.info? 72).map (fun i=>(i.zero,i.size))=some (some (.agg #[.int .i64 0,.string ByteArray.empty,.string ByteArray.empty,.int .i64 0,.int .i64 0,.int .i64 0,.slice none 0 0]),7):=by kernel_rfl
theorem CRdS_cells {w:World} {S:Nat→Prop} {k:Int} {i l:ByteArray} {s t e:Int} {xs:List Cont} {cs:List Value} (h:CRdS w S (.mk k i l s t e xs) cs):∃ A c,cs=contCells k i l s t e A xs.length c:=by
 rw [CRdS] at h;obtain ⟨A,c,h,_⟩:=h;exact ⟨A,c,h⟩

def NewC (w w':World) (a:Cont) (cs:List Value):Prop:=CRdS w' (fun b=>w.heap.size≤b∧b<w'.heap.size) a cs
theorem NewC.crd {w w':World} {a:Cont} {cs:List Value} (h:NewC w w' a cs):CRd w' w'.heap.size a cs:=CRdS_mono (fun _ h=>h.2) (fun _ _ _ _ hu=>hu) a cs h
def CopiedPost (a:Cont) (w:World) (e:Ending) (w':World):Prop:=∃ cs,e=.returned (.agg cs.toArray)∧NewC w w' a cs∧Below w.heap.size w w'

set_option maxRecDepth 100000 in
theorem copied_all (N:Nat):∀ (a:Cont) (cs:List Value) (w:World),szC a<N→CRd w w.heap.size a cs→nodesC a≤2 ^ 40→Calls Tryz.prog 176 #[.agg cs.toArray] w (CopiedPost a w):=by
 induction N with
 | zero=>intro a cs w h;omega
 | succ N ih =>
  intro a cs w hsz hrd hnod;obtain ⟨kk,i,l,s,t,e,xs⟩:=a;obtain ⟨A,c,rfl,hok,hsl⟩:=CRd_iff.1 hrd;clear hrd;obtain ⟨i0,hi0,hz0,hz1,hz2⟩:=info_parts info_cont;have hzv:=(zero_of_info (P:=Tryz.prog) (t:=72) info_cont2).1;have HI0:=Lh_ hi0;clear hi0;have HZ0:=Lh_ hz0;clear hz0;have HZ1:=Lh_ hz1;clear hz1;have HZ2:=Lh_ hz2;clear hz2;have IH:=Lh_ ih;clear ih;have hx1:=hsl.1;have hx2:=hsl.2.1;unfold maxLen at hx2;have HSl:=Lh_ hsl;clear hsl;have HSZ:=Lh_ hsz;clear hsz;have HNOD:=Lh_ hnod;clear hnod;have HOK:=Lh_ hok;clear hok;simp only [contCells];obtain ⟨w0,hw0⟩:∃ w0,w.alloc (.cells #[.int .i64 kk,.string i,.string l,.int .i64 s,.int .i64 t,.int .i64 e,.slice A xs.length c] 72)=w0:=⟨_,rfl⟩;obtain ⟨w1,hw1⟩:∃ w1,w0.alloc (.cells #[.int .i64 0,.string ByteArray.empty,.string ByteArray.empty,.int .i64 0,.int .i64 0,.int .i64 0,.slice none 0 0] 72)=w1:=⟨_,rfl⟩;obtain ⟨hb0,hg0,hbox⟩:=box7 hw0;obtain ⟨hb1,hg1,hboxz⟩:=box7 hw1;rw [hg0] at hboxz;have hfr0:∀ j,w1.frozen? ⟨w.heap.size,j,none⟩=false:=fun j=>(hb1.frozen (p:=⟨w.heap.size,j,none⟩) (by show w.heap.size<w0.heap.size;omega)).trans (box7f hw0 j)
  have hfr1:∀ j,w1.frozen? ⟨w.heap.size+1,j,none⟩=false:=fun j=>by have:=box7f hw1 j;rwa [hg0] at this
  have HF0:=Lh_ hfr0;have HF1:=Lh_ hfr1;clear hfr0 hfr1;have hbox':=hbox.keep hb1 (by omega);obtain ⟨d0,d1,d2,d3,d4,d5,d6⟩:=hbox'.zero;have hb01:Below w.heap.size w w1:=hb0.trans (hb1.mono (by omega));go_enter Tryz.func176,Tryz.ntmps176;go_wp2_with fail;have HBOX:=Lh_ hbox';have HBOXZ:=Lh_ hboxz;clear hbox' hbox hboxz hw0 hw1 d0 d1 d2 d3 d4 d5 d6 hb0 hb1;generalize hgg:w.heap.size=g at *;have hg2:w1.heap.size=g+2:=by omega
  clear hg1;go_loopw [3,9] (fun v i wr=>∃ k:Nat,k≤xs.length∧i=.int .i64 k∧Hid (OwnsC (fun b=>g+2≤b) wr (g+2) 72 v (xs.take k))∧Below w1.heap.size w1 wr) (fun _ i _=>xs.length - (intOf i).toNat)
  case atStart=>exact ⟨0,Nat.zero_le _,rfl,OwnsC.nil_ _ _ _ _,Below.refl _ _⟩
  case round =>
   obtain ⟨k,hk,rfl,HOwn,hb⟩:=hrel;have hbw:Below g w wr:=hb01.trans (hb.mono (by omega));by_cases hlt:k<xs.length
   ·
    have hslr:=HSl.out.next (by omega) (hgg ▸ hbw)
    obtain ⟨b3,o3,rfl,hb3,cs,hcs,hcells⟩:=hslr.cont hlt;obtain ⟨x,hx⟩:∃ x,xs[k]=x:=⟨_,rfl⟩;have hxm:x ∈ xs:=hx ▸ List.getElem_mem hlt;have htk:xs.take (k+1)=xs.take k ++ [x]:=by rw [← hx];exact List.take_succ_eq_append_getElem hlt
    rw [hx] at hcs;clear hslr;have hszx:=szC_mem (k:=kk) (i:=i) (l:=l) (s:=s) (t:=t) (e:=e) hxm;have hlen:(xs.take k).length=k:=by rw [List.length_take];omega
    have hnl:xs.length≤nodesL xs:=nodesL_length xs;have hnx:nodesC x≤2 ^ 40:=by
     have h1:=nodesL_mem hxm;have h2:=HNOD.out;rw [nodesC] at h2;omega
    have hkb:k+1≤2 ^ 40:=by
     have h2:=HNOD.out;rw [nodesC] at h2;omega
    obtain ⟨kk2,i2,l2,s2,t2,e2,xs2⟩:=x;obtain ⟨A2,c2,rfl,hok2,hsl2⟩:=CRd_iff.1 hcs;obtain ⟨c0,c1,c2',c3,c4,c5,c6⟩:=cells7 hcells;have i1:(k:Int)<(xs.length:Int):=by omega
    obtain ⟨w2,hw2⟩:∃ w2,wr.alloc (.cells #[.int .i64 kk2,.string i2,.string l2,.int .i64 s2,.int .i64 t2,.int .i64 e2,.slice A2 xs2.length c2] 72)=w2:=⟨_,rfl⟩;obtain ⟨hb2,hg2',hbox2⟩:=box7 hw2;obtain ⟨f0,f1,f2,f3,f4,f5,f6⟩:=hbox2.zero;have hcall:=IH.out (.mk kk2 i2 l2 s2 t2 e2 xs2) _ w2 (by have:=HSZ.out;omega) (CRd_more (by omega) _ _ (CRd_keep hb2 _ _ hcs)) hnx;clear hcells hcs hok2 hsl2 hx hxm hszx hnx hnl;have HCALL:=Lh_ hcall;clear hcall;have HTK:=Lh_ htk;clear htk;have HLEN:=Lh_ hlen;clear hlen;have HKB:=Lh_ hkb;clear hkb;go_wp2_with fail;refine HCALL.out.mono ?_;rintro e' w3 ⟨cs3,rfl,hnew,hb3'⟩;obtain ⟨A3,c3',rfl⟩:=CRdS_cells hnew;clear c0 c1 c2' c3 c4 c5 c6 f0 f1 f2 f3 f4 f5 f6 hw2 hbox2;simp only [contCells];have HNEW:=Lh_ hnew;clear hnew;obtain ⟨w4,hw4⟩:∃ w4,w3.alloc (.cells #[.int .i64 kk2,.string i2,.string l2,.int .i64 s2,.int .i64 t2,.int .i64 e2,.slice A3 xs2.length c3'] 72)=w4:=⟨_,rfl⟩;have hnews:=cell7_new w3 72 kk2 i2 l2 s2 t2 e2 A3 xs2.length c3';obtain ⟨hb4,hg4,-⟩:=box7 hw4;rw [hw4] at hnews;have hbr4:Below wr.heap.size wr w4:=(hb2.trans (hb3'.mono (by omega))).trans (hb4.mono (by have:=hb3'.size;omega));have hown4:=HOwn.out.below hbr4;have hwl:=HOwn.out.lt;obtain ⟨css,o1,o2,o3'⟩:=hown4;rw [HLEN.out] at o1;have HO3:=Lh_ o3';clear o3';have HNEWS:=Lh_ hnews;clear hnews;go_wp2_with (at_builtin;go_must (refine wpList_append_own_at _ rfl _ _ 70 rfl (g+2) 72 i0 _ 7 88 Tryz.underlying70 HI0.out HZ0.out HZ1.out HZ2.out rfl (by decide) _ _ _ rfl o1 ⟨w3.heap.size,0,none⟩ 1 1 _ rfl rfl HNEWS.out (CRdS_one HNEW.out) (by have:=HKB.out;unfold maxLen;omega) (by have:=HKB.out;omega) (by have:=hb.size;have:=hb3'.size;omega) ?_);intro v' w5 hown' hgrow _ hat);have hnewb:∀ b,v'.ownBlock=some b→u3.ownBlock=some b∨w4.heap.size≤b:=fun b hb'=>by
     rcases hat with h | h
     · exact .inl (h.symm.trans hb')
     · rw [hb'] at h;exact .inr (by have:=Option.some.inj h;omega)
    have hx4:CRdS w4 (fun b=>g+2≤b∧b<w4.heap.size∧u3.ownBlock≠some b) (.mk kk2 i2 l2 s2 t2 e2 xs2) (contCells kk2 i2 l2 s2 t2 e2 A3 xs2.length c3') :=
     CRdS_mono (fun b ⟨h1,h2⟩=>⟨by have:=hb.size;omega,by omega,fun h=>by have:=(hwl b h).2;omega⟩) (fun b o u ⟨_,h2⟩ hu=>(hb4.cell (p:=⟨b,o,none⟩) (by exact h2)).trans hu) _ _ HNEW.out
    have hOwn5:OwnsC (fun b=>g+2≤b) w5 (g+2) 72 v' (xs.take (k+1)):=by
     rw [HTK.out];refine OwnsC.app (w:=w4) ?_ o2 HO3.out hx4 ?_ hgrow hnewb
     · rw [HLEN.out];exact o1
     · rw [HLEN.out];exact hown'
    have hb5:Below w1.heap.size w1 w5:=(hb.trans (hbr4.mono hb.size)).grown hgrow (by have:=hbr4.size;have:=hb.size;omega) (fun q hq=>by have:=(hwl q hq).1;omega);go_roundw
    case rel=>exact ⟨k+1,by omega,by go_num,hOwn5,hb5⟩
    case measure=>simp [intOf];omega
   ·
    have hkk:k=xs.length:=by omega
    subst hkk;rw [List.take_length] at HOwn;obtain ⟨A5,c5,rfl,hc51,hc52,hc53⟩:=HOwn.out.cs;obtain ⟨d0,d1,d2,d3,d4,d5,d6⟩:=(HBOX.out.keep hb (by omega)).zero;obtain ⟨z0,z1,z2,z3,z4,z5,z6⟩:=(HBOXZ.out.keep hb (by omega)).zero;have hfr0:∀ j,wr.frozen? ⟨g,j,none⟩=false:=fun j=>(hb.frozen (p:=⟨g,j,none⟩) (by show g<w1.heap.size;omega)).trans (HF0.out j)
    have hfr1:∀ j,wr.frozen? ⟨g+1,j,none⟩=false:=fun j=>(hb.frozen (p:=⟨g+1,j,none⟩) (by show g+1<w1.heap.size;omega)).trans (HF1.out j)
    clear d6;have hbf:Below g w ((((((((wr.setCell ⟨g,6,none⟩ (.slice A5 xs.length c5)).setCell ⟨g+1,0,none⟩ (.int .i64 kk)).setCell ⟨g+1,1,none⟩ (.string i)).setCell ⟨g+1,2,none⟩ (.string l)).setCell ⟨g+1,3,none⟩ (.int .i64 s)).setCell ⟨g+1,4,none⟩ (.int .i64 t)).setCell ⟨g+1,5,none⟩ (.int .i64 e)).setCell ⟨g+1,6,none⟩ (.slice A5 xs.length c5)) :=
     (((((((hbw.setCell (by simp) _).setCell (by simp) _).setCell (by simp) _).setCell (by simp) _).setCell (by simp) _).setCell (by simp) _).setCell (by simp) _).setCell (by simp) _
    have hcell:∀ b o u,(g+2≤b∧b<wr.heap.size)→wr.cell? ⟨b,o,none⟩=some u→((((((((wr.setCell ⟨g,6,none⟩ (.slice A5 xs.length c5)).setCell ⟨g+1,0,none⟩ (.int .i64 kk)).setCell ⟨g+1,1,none⟩ (.string i)).setCell ⟨g+1,2,none⟩ (.string l)).setCell ⟨g+1,3,none⟩ (.int .i64 s)).setCell ⟨g+1,4,none⟩ (.int .i64 t)).setCell ⟨g+1,5,none⟩ (.int .i64 e)).setCell ⟨g+1,6,none⟩ (.slice A5 xs.length c5)).cell? ⟨b,o,none⟩=some u:=by
     intro b o u hb' hu;have n1:g+1≠b:=by omega
     have n0:g≠b:=by omega
     rw [cell_set_far _ _ _ _ _ n1,cell_set_far _ _ _ _ _ n1,cell_set_far _ _ _ _ _ n1,cell_set_far _ _ _ _ _ n1,cell_set_far _ _ _ _ _ n1,cell_set_far _ _ _ _ _ n1,cell_set_far _ _ _ _ _ n1,cell_set_far _ _ _ _ _ n0];exact hu
    have hsz:((((((((wr.setCell ⟨g,6,none⟩ (.slice A5 xs.length c5)).setCell ⟨g+1,0,none⟩ (.int .i64 kk)).setCell ⟨g+1,1,none⟩ (.string i)).setCell ⟨g+1,2,none⟩ (.string l)).setCell ⟨g+1,3,none⟩ (.int .i64 s)).setCell ⟨g+1,4,none⟩ (.int .i64 t)).setCell ⟨g+1,5,none⟩ (.int .i64 e)).setCell ⟨g+1,6,none⟩ (.slice A5 xs.length c5)).heap.size=wr.heap.size:=by simp
    have d6:=(HBOX.out.keep hb (by omega)).zero.2.2.2.2.2.2;have HBF:=Lh_ hbf;have HCELL:=Lh_ hcell;have HSZF:=Lh_ hsz;clear hbf hcell hsz;go_wp2;refine bodyPost_ret (v:=.agg #[.int .i64 kk,.string i,.string l,.int .i64 s,.int .i64 t,.int .i64 e,.slice A5 xs.length c5]) (by simp [results,Tryz.results176,go_sem,z0,z1,z2,z3,z4,z5,z6]) rfl ⟨contCells kk i l s t e A5 xs.length c5,rfl,?_,by rw [hgg];exact HBF.out⟩;unfold NewC;rw [CRdS,HSZF.out];refine ⟨A5,c5,rfl,HOK.out,hc51,hc52,fun hn=>?_⟩;obtain ⟨b,o,hA,hbb,hcs⟩:=hc53 hn;exact ⟨b,o,hA,⟨by omega,hbb.2⟩,CsAtS_mono (fun b hb'=>⟨by have:=hb'.1;omega,hb'.2⟩) (fun b o u hb' hu=>HCELL.out b o u hb' hu) b ⟨hbb.1,hbb.2⟩ xs o hcs⟩
theorem c7copied_any (a:Cont) (cs:List Value) (w:World) (h:CRd w w.heap.size a cs) (hn:nodesC a≤2 ^ 40):Calls Tryz.prog 176 #[.agg cs.toArray] w (CopiedPost a w) :=
 copied_all _ a cs w (Nat.lt_succ_self _) h hn
end Go.Proofs.YtjgllhlilbchpaaGreatDoor
namespace Go.Proofs.YtjgllhlilbchpaaGreatDoor
open Go.RowKit Go.Cold

def WalkPost (a:Cont) (w:World) (e:Ending) (w':World):Prop:=∃ v,e=.returned v∧OwnsC (fun b=>w.heap.size≤b) w' w.heap.size 72 v (walkC a)∧Below w.heap.size w w'

set_option maxRecDepth 100000 in
theorem Walk_all (N:Nat):∀ (a:Cont) (cs:List Value) (w:World),szC a<N→CRd w w.heap.size a cs→nodesC a≤2 ^ 40→Calls Tryz.prog 147 #[.agg cs.toArray] w (WalkPost a w):=by
 induction N with
 | zero=>intro a cs w h;omega
 | succ N ih =>
  intro a cs w hsz hrd hnod;obtain ⟨kk,i,l,s,t,e,xs⟩:=a;obtain ⟨A,c,rfl,hok,hsl⟩:=CRd_iff.1 hrd;clear hrd;obtain ⟨i0,hi0,hz0,hz1,hz2⟩:=info_parts info_cont;have HI0:=Lh_ hi0;clear hi0;have HZ0:=Lh_ hz0;clear hz0;have HZ1:=Lh_ hz1;clear hz1;have HZ2:=Lh_ hz2;clear hz2;have IH:=Lh_ ih;clear ih;have hx1:=hsl.1;have hx2:=hsl.2.1;unfold maxLen at hx2;have HSl:=Lh_ hsl;clear hsl;have HSZ:=Lh_ hsz;clear hsz;have HNOD:=Lh_ hnod;clear hnod;have HOK:=Lh_ hok;clear hok;simp only [contCells];obtain ⟨w0,hw0⟩:∃ w0,w.alloc (.cells #[.int .i64 kk,.string i,.string l,.int .i64 s,.int .i64 t,.int .i64 e,.slice A xs.length c] 72)=w0:=⟨_,rfl⟩;obtain ⟨hb0,hg0,hbox⟩:=box7 hw0;obtain ⟨d0,d1,d2,d3,d4,d5,d6⟩:=hbox.zero;have hcopy:=c7copied_any (.mk kk i l s t e xs) _ w0 (CRd_more (by omega) _ _ (CRd_keep hb0 _ _ (CRd_iff.2 ⟨A,c,rfl,HOK.out,HSl.out⟩))) HNOD.out;have HCOPY:=Lh_ hcopy;clear hcopy;go_enter Tryz.func147,Tryz.ntmps147;go_wp2_with fail;refine HCOPY.out.mono ?_;rintro e' wa ⟨csa,rfl,hnew,hba⟩;obtain ⟨Aa,ca,rfl⟩:=CRdS_cells hnew;simp only [contCells];obtain ⟨w1,hw1⟩:∃ w1,wa.alloc (.cells #[.int .i64 kk,.string i,.string l,.int .i64 s,.int .i64 t,.int .i64 e,.slice Aa xs.length ca] 72)=w1:=⟨_,rfl⟩;obtain ⟨hb1,hg1,-⟩:=box7 hw1;have hbx:=(hbox.keep hba (by omega)).keep hb1 (by have:=hba.size;omega);clear d0 d1 d2 d3 d4 d5 d6;obtain ⟨d0,d1,d2,d3,d4,d5,d6⟩:=hbx.zero;have hb01:Below w.heap.size w w1:=(hb0.trans (hba.mono (by omega))).trans (hb1.mono (by have:=hba.size;omega));have hown1:OwnsC (fun b=>w.heap.size≤b) w1 (w.heap.size+1) 72 (.slice (some ⟨wa.heap.size,0,none⟩) 1 1) [.mk kk i l s t e xs]:=by
   refine ⟨[contCells kk i l s t e Aa xs.length ca],?_,rfl,fun q x cs hx hcs=>?_⟩
   ·
    have:=World.ownsRow_lit (size:=7) (base:=w.heap.size+1) (e:=72) wa #[.int .i64 kk,.string i,.string l,.int .i64 s,.int .i64 t,.int .i64 e,.slice Aa xs.length ca] 1 (by have:=hba.size;omega) (by simp [maxLen]) rfl
    rw [hw1] at this;simpa [contCells] using this
   ·
    have hq:q=0:=by
     have:=(List.getElem?_eq_some_iff.1 hx).1;simp at this;exact this
    subst hq;simp at hx hcs
    subst hx;subst hcs;exact CRdS_mono (fun b ⟨h1,h2⟩=>⟨by omega,by omega,fun h=>by simp [Value.ownBlock] at h;omega⟩) (fun b o u ⟨_,h2⟩ hu=>(hb1.cell (p:=⟨b,o,none⟩) (by exact h2)).trans hu) _ _ hnew
  go_wp2_with fail;have HBOX:=Lh_ hbx;have HOWN1:=Lh_ hown1;clear hbox hbx hw0 hw1 d0 d1 d2 d3 d4 d5 d6 hb0 hnew hown1;have hga:w.heap.size+1≤wa.heap.size:=by have:=hba.size;omega
  clear hba;generalize hgg:w.heap.size=g at *;go_loopw [3,12] (fun v q wr=>∃ k:Nat,k≤xs.length∧q=.int .i64 k∧Hid (OwnsC (fun b=>g≤b) wr (g+1) 72 v (.mk kk i l s t e xs :: walkL (xs.take k)))∧Below (g+1) w1 wr) (fun _ i _=>xs.length - (intOf i).toNat)
  case atStart=>exact ⟨0,Nat.zero_le _,rfl,by rw [List.take_zero,walkL];exact HOWN1.out,Below.refl _ _⟩
  case round =>
   obtain ⟨k,hk,rfl,HOwn,hb⟩:=hrel;have hbw:Below g w wr:=hb01.trans (hb.mono (by omega));by_cases hlt:k<xs.length
   ·
    have hslr:=HSl.out.next (by omega) (hgg ▸ hbw)
    obtain ⟨b3,o3,rfl,hb3,cs,hcs,hcells⟩:=hslr.cont hlt;obtain ⟨x,hx⟩:∃ x,xs[k]=x:=⟨_,rfl⟩;have hxm:x ∈ xs:=hx ▸ List.getElem_mem hlt;have htk:xs.take (k+1)=xs.take k ++ [x]:=by rw [← hx];exact List.take_succ_eq_append_getElem hlt
    rw [hx] at hcs;clear hslr;have hszx:=szC_mem (k:=kk) (i:=i) (l:=l) (s:=s) (t:=t) (e:=e) hxm;have hnx:nodesC x≤2 ^ 40:=by
     have h1:=nodesL_mem hxm;have h2:=HNOD.out;rw [nodesC] at h2;omega
    have hwx:=walkC_length x;have hlen:(.mk kk i l s t e xs :: walkL (xs.take k):List Cont).length=nodesL (xs.take k)+1:=by rw [List.length_cons,walkL_length]
    have hkb:nodesL (xs.take k)+1+nodesC x≤2 ^ 40:=by
     have h1:=nodesL_app x (xs.take k);rw [← htk] at h1;have h3:=nodesL_take xs (k+1);have h2:=HNOD.out;rw [nodesC] at h2;omega
    have hpx:=nodesC_pos x;have hwk:walkL (xs.take (k+1))=walkL (xs.take k) ++ walkC x:=by rw [htk,walkL_app]
    clear htk;obtain ⟨kk2,i2,l2,s2,t2,e2,xs2⟩:=x;obtain ⟨A2,c2,rfl,hok2,hsl2⟩:=CRd_iff.1 hcs;obtain ⟨c0,c1,c2',c3,c4,c5,c6⟩:=cells7 hcells;have i1:(k:Int)<(xs.length:Int):=by omega
    obtain ⟨w2,hw2⟩:∃ w2,wr.alloc (.cells #[.int .i64 kk2,.string i2,.string l2,.int .i64 s2,.int .i64 t2,.int .i64 e2,.slice A2 xs2.length c2] 72)=w2:=⟨_,rfl⟩;obtain ⟨hb2,hg2',hbox2⟩:=box7 hw2;obtain ⟨f0,f1,f2,f3,f4,f5,f6⟩:=hbox2.zero;have hcall:=IH.out (.mk kk2 i2 l2 s2 t2 e2 xs2) _ w2 (by have:=HSZ.out;omega) (CRd_more (by omega) _ _ (CRd_keep hb2 _ _ hcs)) hnx;clear hcells hcs hok2 hsl2 hx hxm hszx hnx;have HCALL:=Lh_ hcall;clear hcall;have HWK:=Lh_ hwk;clear hwk;have HWX:=Lh_ hwx;clear hwx;have HPX:=Lh_ hpx;clear hpx;have HLEN:=Lh_ hlen;clear hlen;have HKB:=Lh_ hkb;clear hkb;go_wp2_with fail;refine HCALL.out.mono ?_;rintro e' w3 ⟨v3,rfl,hown3,hb3'⟩;clear c0 c1 c2' c3 c4 c5 c6 f0 f1 f2 f3 f4 f5 f6 hw2 hbox2;have hbr3:Below wr.heap.size wr w3:=hb2.trans (hb3'.mono (by omega));obtain ⟨dss,p1,p2,p3⟩:=hown3;rw [HWX.out] at p1;have hform:=p1.form HPX.out;obtain ⟨g3,cap3,rfl,hg31,hg32⟩:=hform;have hcells3:=p1.cells (g:=g3) rfl;have hplen:=p1.1;have hone:∀ u ∈ dss.flatten,u.oneCell'=true:=by
     intro u hu;obtain ⟨ds,hds,hu'⟩:=List.mem_flatten.1 hu;obtain ⟨q,hq,rfl⟩:=List.getElem_of_mem hds;exact CRdS_one (p3 q (walkC (.mk kk2 i2 l2 s2 t2 e2 xs2))[q] dss[q] (List.getElem?_eq_getElem (by omega)) (List.getElem?_eq_getElem hq)) u hu'
    have hown4:=HOwn.out.below hbr3;have hwl:=HOwn.out.lt;obtain ⟨css,o1,o2,o3'⟩:=hown4;rw [HLEN.out] at o1;have HO3:=Lh_ o3';clear o3';have HP3:=Lh_ p3;clear p3;have HONE:=Lh_ hone;clear hone;have HC3:=Lh_ hcells3;clear hcells3;have HPL:=Lh_ hplen;clear hplen;have HO1:=Lh_ o1;clear o1;obtain ⟨m3,hm3⟩:∃ m3,nodesC (.mk kk2 i2 l2 s2 t2 e2 xs2)=m3:=⟨_,rfl⟩;rw [hm3] at HPL HKB HWX HPX ⊢;obtain ⟨n3,hn3⟩:∃ n3,nodesL (xs.take k)=n3:=⟨_,rfl⟩;rw [hn3] at HKB HLEN HO1;clear p1;go_wp2_with (at_builtin;go_must (refine wpList_append_own_at _ rfl _ _ 70 rfl (g+1) 72 i0 _ 7 88 Tryz.underlying70 HI0.out HZ0.out HZ1.out HZ2.out rfl (by decide) _ _ _ rfl HO1.out ⟨g3,0,none⟩ m3 cap3 _ rfl HPL.out HC3.out HONE.out (by have:=HKB.out;unfold maxLen;omega) (by have:=HKB.out;omega) (by have:=hb.size;have:=hb3'.size;omega) ?_);intro v' w5 hown' hgrow _ hat);have hnewb:∀ b,v'.ownBlock=some b→u3.ownBlock=some b∨w3.heap.size≤b:=fun b hb'=>by
     rcases hat with h | h
     · exact .inl (h.symm.trans hb')
     · rw [hb'] at h;exact .inr (by have:=Option.some.inj h;omega)
    have hOwn5:OwnsC (fun b=>g≤b) w5 (g+1) 72 v' (.mk kk i l s t e xs :: walkL (xs.take (k+1))):=by
     rw [HWK.out,← List.cons_append];refine OwnsC.appL (w:=w3) ?_ o2 HO3.out p2 (fun q y ds hy hds=>?_) ?_ hgrow hnewb
     · rw [HLEN.out];exact HO1.out
     · exact CRdS_mono (fun b ⟨h1,h2,_⟩=>⟨by have:=hb.size;omega,h2,fun h=>by have:=(hwl b h).2;omega⟩) (fun _ _ _ _ hu=>hu) y ds (HP3.out q y ds hy hds)
     · rw [HLEN.out,HWX.out];exact hown'
    have hb5:Below (g+1) w1 w5:=(hb.trans (hbr3.mono (by have:=hb.size;omega))).grown hgrow (by have:=hbr3.size;have:=hb.size;omega) (fun q hq=>(hwl q hq).1);go_roundw
    case rel=>exact ⟨k+1,by omega,by go_num,hOwn5,hb5⟩
    case measure=>simp [intOf];omega
   ·
    have hkk:k=xs.length:=by omega
    subst hkk;rw [List.take_length] at HOwn;go_wp2;go_ret;exact ⟨_,rfl,by rw [hgg,walkC];exact HOwn.out.base_ (by omega),by first | exact hbw | (rw [hgg];exact hbw)⟩
theorem Walk_any (a:Cont) (cs:List Value) (w:World) (h:CRd w w.heap.size a cs) (hn:nodesC a≤2 ^ 40):Calls Tryz.prog 147 #[.agg cs.toArray] w (WalkPost a w) :=
 Walk_all _ a cs w (Nat.lt_succ_self _) h hn
end Go.Proofs.YtjgllhlilbchpaaGreatDoor
