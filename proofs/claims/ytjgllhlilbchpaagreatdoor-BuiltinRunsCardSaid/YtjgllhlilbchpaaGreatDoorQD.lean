/-
  The walks of layer 3: both Sorted.
-/
import Derived.Test.YtjgllhlilbchpaaGreatDoorQTK
import Derived.Test.YtjgllhlilbchpaaGreatDoorQC
import Derived.Shelf.Abstract
import Derived.Test.YtjgllhlilbchpaaGreatDoorQA
import Derived.Maps.Views
import Derived.Maps.OwnSet
import Derived.Maps.Keyed
import Derived.Test.YtjgllhlilbchpaaGreatDoorQShf
set_option linter.unusedSimpArgs false
set_option linter.unusedVariables false
namespace Go.Cold
open Go Go.RowKit
theorem sorted_snoc:∀ (l:List Attr) (a b:Attr),sortedA (l ++ [a,b])=(sortedA (l ++ [a]) && strLt a.name b.name)
 | [],a,b=>by simp [sortedA]
 | [x],a,b=>by simp [sortedA]
 | x :: y :: l,a,b=>by
  have h:=sorted_snoc (y :: l) a b;simp only [List.cons_append] at h ⊢;rw [sortedA,sortedA,h,Bool.and_assoc]
theorem sorted_left:∀ (l r:List Attr),sortedA (l ++ r)=true→sortedA l=true
 | [],r,h=>rfl
 | [x],r,h=>rfl
 | x :: y :: l,r,h=>by
  simp only [List.cons_append] at h;rw [sortedA,Bool.and_eq_true] at h;rw [sortedA,Bool.and_eq_true];exact ⟨h.1,sorted_left (y :: l) r h.2⟩
theorem sorted_step {xs:List Attr} {j:Nat} {a b:Attr} (h:j+1<xs.length) (ha:xs[j]? = some a) (hb:xs[j+1]? = some b):sortedA (xs.take (j+1+1))=(sortedA (xs.take (j+1)) && strLt a.name b.name):=by
 have h1:xs.take (j+1)=xs.take j ++ [a]:=by rw [List.take_add_one,ha];rfl
 have h2:xs.take (j+1+1)=xs.take j ++ [a,b]:=by rw [List.take_add_one,hb,h1];simp
 rw [h2,h1,sorted_snoc]
theorem sorted_false {xs:List Attr} {k:Nat} (h:sortedA (xs.take k)=false):sortedA xs=false:=by
 cases hs:sortedA xs with
 | false=>rfl
 | true =>
  rw [← List.take_append_drop k xs] at hs;rw [sorted_left _ _ hs] at h;cases h
end Go.Cold
namespace Go.Proofs.YtjgllhlilbchpaaGreatDoor
open Go.RowKit Go.Cold
set_option maxRecDepth 100000 in
theorem RSorted_any (A:Option Addr) (c:Nat) (xs:List Attr) (w:World) (B:Nat) (hx:Sl w B A c xs) :
  Calls Tryz.prog 130 #[.slice A xs.length c] w fun e w'=>e=.returned (.bool (sortedA xs))∧Below w.heap.size w w':=by
 have hc:=hx.1;have hc2:=hx.2.1;unfold maxLen at hc2;have HX:=Lh_ hx;clear hx;go_enter Tryz.func130,Tryz.ntmps130;go_wp2;go_loopw [3] (fun i wr=>∃ j n:Nat,(j+1≤xs.length∨j=0)∧i=.int .i64 ((j:Int)+1)∧wr=w.drewN n∧Hid (sortedA (xs.take (j+1))=true)) (fun i _=>xs.length - (intOf i).toNat)
 case atStart =>
  refine ⟨0,0,.inr rfl,by first | rfl | simp,rfl,?_⟩;show sortedA (xs.take 1)=true
  rcases xs with _ | ⟨a,r⟩ <;> rfl
 case round =>
  obtain ⟨j,n,hk,rfl,rfl,HA⟩:=hrel;by_cases hlt:j+1<xs.length
  ·
   have hlt0:j<xs.length:=by omega
   obtain ⟨b3,o3,rfl,_,_,cx,_⟩:=HX.out.attr hlt0;obtain ⟨b4,o4,hbb,_,_,cy,_⟩:=HX.out.attr hlt;obtain ⟨rfl,rfl⟩:b3=b4∧o3=o4:=by injection hbb with hbb;injection hbb with h1 h2;exact ⟨h1,h2⟩
   clear hbb;have i1:(j:Int)+1<(xs.length:Int):=by omega
   have hst:=sorted_step hlt (List.getElem?_eq_getElem hlt0) (List.getElem?_eq_getElem hlt);obtain ⟨x,hxx⟩:∃ x,xs[j]'hlt0=x:=⟨_,rfl⟩;obtain ⟨y,hyy⟩:∃ y,xs[j+1]'hlt=y:=⟨_,rfl⟩;rw [hxx,hyy] at hst;rw [hxx] at cx;rw [hyy] at cy;have HST:=Lh_ hst;clear hxx hyy hst;have hwr:IntKind.i64.wrap ((j:Int)+1 - 1)=(j:Int):=by rw [Int.add_sub_cancel];exact IntWalk.i64_in _ (by omega)
   have hwr2:IntKind.i64.wrap (j:Int)=(j:Int):=IntWalk.i64_in _ (by omega);have hwr3:((j:Int)+1).toNat=j+1:=by omega
   have i0:0≤(j:Int)+1:=by omega
   cases hs:Op.bytesLess x.name.toList y.name.toList with
   | true =>
    go_wp2;go_quiet (fail)
    clear hwr hwr2 hwr3;go_wp2;go_roundw
    case rel=>exact ⟨j+1,_,.inl (by omega),by first | rfl | go_num,rfl,by rw [HST.out,HA.out];exact hs⟩
    case measure=>simp [intOf];omega
   | false =>
    have HF:=Lh_ (sorted_false (show sortedA (xs.take (j+1+1))=false by rw [HST.out];unfold strLt;rw [hs,Bool.and_false]));go_wp2;go_quiet (fail)
    clear hwr hwr2 hwr3;go_wp2;go_ret;exact ⟨ret_bool (by rw [HF.out];try rfl),below_drewN (below_drewN_self _ _ _) _⟩
  ·
   have i1:¬ (j:Int)+1<(xs.length:Int):=by omega
   have hf:sortedA xs=true:=by
    have h:=HA.out;rcases hk with hk | hk
    · rwa [List.take_of_length_le (by omega)] at h
    ·
     subst hk
     rwa [List.take_of_length_le (by omega)] at h
   have HF:=Lh_ hf;clear hf;go_wp2;go_ret;exact ⟨ret_bool (by rw [HF.out];try rfl),below_drewN_self _ _ _⟩
set_option maxRecDepth 100000 in
theorem Sorted_any (A:Option Addr) (c:Nat) (xs:List Attr) (w:World) (B:Nat) (hx:Sl w B A c xs) :
  Calls Tryz.prog 23 #[.slice A xs.length c] w fun e w'=>e=.returned (.bool (sortedA xs))∧Below w.heap.size w w':=by
 have hc:=hx.1;have hc2:=hx.2.1;unfold maxLen at hc2;have HX:=Lh_ hx;clear hx;go_enter Tryz.func23,Tryz.ntmps23;go_wp2;go_loopw [3] (fun i wr=>∃ j n:Nat,(j+1≤xs.length∨j=0)∧i=.int .i64 ((j:Int)+1)∧wr=w.drewN n∧Hid (sortedA (xs.take (j+1))=true)) (fun i _=>xs.length - (intOf i).toNat)
 case atStart =>
  refine ⟨0,0,.inr rfl,by first | rfl | simp,rfl,?_⟩;show sortedA (xs.take 1)=true
  rcases xs with _ | ⟨a,r⟩ <;> rfl
 case round =>
  obtain ⟨j,n,hk,rfl,rfl,HA⟩:=hrel;by_cases hlt:j+1<xs.length
  ·
   have hlt0:j<xs.length:=by omega
   obtain ⟨b3,o3,rfl,_,_,cx,_⟩:=HX.out.attr hlt0;obtain ⟨b4,o4,hbb,_,_,cy,_⟩:=HX.out.attr hlt;obtain ⟨rfl,rfl⟩:b3=b4∧o3=o4:=by injection hbb with hbb;injection hbb with h1 h2;exact ⟨h1,h2⟩
   clear hbb;have i1:(j:Int)+1<(xs.length:Int):=by omega
   have hst:=sorted_step hlt (List.getElem?_eq_getElem hlt0) (List.getElem?_eq_getElem hlt);obtain ⟨x,hxx⟩:∃ x,xs[j]'hlt0=x:=⟨_,rfl⟩;obtain ⟨y,hyy⟩:∃ y,xs[j+1]'hlt=y:=⟨_,rfl⟩;rw [hxx,hyy] at hst;rw [hxx] at cx;rw [hyy] at cy;have HST:=Lh_ hst;clear hxx hyy hst;have hwr:IntKind.i64.wrap ((j:Int)+1 - 1)=(j:Int):=by rw [Int.add_sub_cancel];exact IntWalk.i64_in _ (by omega)
   have hwr2:IntKind.i64.wrap (j:Int)=(j:Int):=IntWalk.i64_in _ (by omega);have hwr3:((j:Int)+1).toNat=j+1:=by omega
   have i0:0≤(j:Int)+1:=by omega
   cases hs:Op.bytesLess x.name.toList y.name.toList with
   | true =>
    go_wp2;go_quiet (fail)
    clear hwr hwr2 hwr3;go_wp2;go_roundw
    case rel=>exact ⟨j+1,_,.inl (by omega),by first | rfl | go_num,rfl,by rw [HST.out,HA.out];exact hs⟩
    case measure=>simp [intOf];omega
   | false =>
    have HF:=Lh_ (sorted_false (show sortedA (xs.take (j+1+1))=false by rw [HST.out];unfold strLt;rw [hs,Bool.and_false]));go_wp2;go_quiet (fail)
    clear hwr hwr2 hwr3;go_wp2;go_ret;exact ⟨ret_bool (by rw [HF.out];try rfl),below_drewN (below_drewN_self _ _ _) _⟩
  ·
   have i1:¬ (j:Int)+1<(xs.length:Int):=by omega
   have hf:sortedA xs=true:=by
    have h:=HA.out;rcases hk with hk | hk
    · rwa [List.take_of_length_le (by omega)] at h
    ·
     subst hk
     rwa [List.take_of_length_le (by omega)] at h
   have HF:=Lh_ hf;clear hf;go_wp2;go_ret;exact ⟨ret_bool (by rw [HF.out];try rfl),below_drewN_self _ _ _⟩
end Go.Proofs.YtjgllhlilbchpaaGreatDoor
namespace Go.Proofs.YtjgllhlilbchpaaGreatDoor
open Go.RowKit Go.Cold

structure PredA (g:FuncId) (caps:Array Value) (w:World) (B:Nat) (Q:Attr→Prop) (p:Attr→Bool):Prop where
 enters:∀ args w,(callFunc g args).run Tryz.prog w=.ok (.enter g args) w
 gives:∀ (d:Attr) (W:World),d.name.size≤maxLen→d.value.size≤maxLen→Q d→Below w.heap.size w W→Calls Tryz.prog g (#[.agg #[.string d.name,.string d.value]] ++ caps) W fun e W'=>e=.returned (.bool (p d))∧Below W.heap.size W W'
theorem PredA.next {g:FuncId} {caps:Array Value} {w w':World} {B:Nat} {Q:Attr→Prop} {p:Attr→Bool} (h:PredA g caps w B Q p) (hb:Below w.heap.size w w'):PredA g caps w' B Q p :=
 ⟨h.enters,fun d W h1 h2 h3 hW=>h.gives d W h1 h2 h3 (hb.trans (hW.mono hb.size))⟩
set_option maxRecDepth 10000 in
theorem IndexFuncA_any (A:Option Addr) (c:Nat) (xs:List Attr) (g:FuncId) (caps:Array Value) (Q:Attr→Prop) (p:Attr→Bool) (w:World) (B:Nat) (hB:B≤w.heap.size) (hx:Sl w B A c xs) (hp:PredA g caps w B Q p) (hq:∀ d ∈ xs,Q d) :
  Calls Tryz.prog 160 #[.slice A xs.length c,.func (.func g) #[] caps] w fun e w'=>e=.returned (.int .i64 (idxInt p xs))∧Below w.heap.size w w':=by
 have hc:=hx.1;have hc2:=hx.2.1;unfold maxLen at hc2;have hen:=hp.enters;have HP:=Lh_ hp;clear hp;have HSl:=Lh_ hx;clear hx;have HQQ:=Lh_ hq;clear hq;have HB:=Lh_ hB;clear hB;go_enter Tryz.func160,Tryz.ntmps160;go_wp2;go_loopw [8] (fun i wr=>∃ k:Nat,k≤xs.length∧i=.int .i64 k∧Hid ((xs.take k).all (fun x=>!p x)=true)∧Below w.heap.size w wr) (fun i _=>xs.length - (intOf i).toNat)
 case atStart=>exact ⟨0,Nat.zero_le _,rfl,rfl,Below.refl _ _⟩
 case round =>
  obtain ⟨k,hk,rfl,HA,hb⟩:=hrel;by_cases hlt:k<xs.length
  ·
   obtain ⟨b3,o3,rfl,hb3,hsz,cx0,cx1⟩:=(HSl.out.keep (hb.mono HB.out)).attr hlt
   have hxk:xs[k]? = some xs[k]:=List.getElem?_eq_getElem hlt;have HQ:=Lh_ (HQQ.out _ (List.getElem_mem hlt));obtain ⟨x,hx⟩:∃ x,xs[k]'hlt=x:=⟨_,rfl⟩;rw [hx] at cx0 cx1 hsz hxk HQ;have HX:=Lh_ hxk;clear hxk;have HXX:=Lh_ hx;clear hx;have i1:(k:Int)<(xs.length:Int):=by omega
   have HCALL:=Lh_ (HP.out.gives x wr hsz.1 hsz.2 HQ.out hb)

   go_wp2_with fail;refine Calls.mono (R:=fun e W'=>e=.returned (.bool (p x))∧Below wr.heap.size wr W') ?_ ?_
   · first | exact HCALL.out | simpa using HCALL.out
   rintro e w1 ⟨rfl,hb1⟩;have hb2:=hb.trans (hb1.mono hb.size);clear hb1 hb HCALL cx0 cx1 hsz;cases hpx:p x with
   | true =>
    have HPX:=Lh_ hpx;clear hpx;go_wp2;go_ret;exact ⟨ret_int (idxInt_some hlt HA.out (by rw [HXX.out];exact HPX.out)).symm,hb2⟩
   | false =>
    have HPX:=Lh_ hpx;clear hpx;go_wp2;go_roundw
    case rel=>exact ⟨k+1,by omega,by go_num,all_step HA.out HX.out (by rw [HPX.out];rfl),hb2⟩
    case measure=>simp [intOf];omega
  ·
   go_wp2
   go_ret;exact ⟨ret_int (idxInt_none (all_end HA.out (by omega))).symm,hb⟩
theorem ContainsFuncA_any (A:Option Addr) (c:Nat) (xs:List Attr) (g:FuncId) (caps:Array Value) (Q:Attr→Prop) (p:Attr→Bool) (w:World) (B:Nat) (hB:B≤w.heap.size) (hx:Sl w B A c xs) (hp:PredA g caps w B Q p) (hq:∀ d ∈ xs,Q d) :
  Calls Tryz.prog 118 #[.slice A xs.length c,.func (.func g) #[] caps] w fun e w'=>e=.returned (.bool (xs.any p))∧Below w.heap.size w w':=by
 have HP:=Lh_ hp;clear hp;have HSl:=Lh_ hx;clear hx;have HQQ:=Lh_ hq;clear hq;have HB:=Lh_ hB;clear hB;go_enter Tryz.func118,Tryz.ntmps118;go_wp2_with fail;refine (IndexFuncA_any A c xs g caps Q p w B HB.out HSl.out HP.out HQQ.out).mono ?_;rintro e w1 ⟨rfl,hb1⟩;go_wp2;go_ret;exact ⟨ret_bool (idxInt_any _ _),hb1⟩

structure PredD (g:FuncId) (caps:Array Value) (w:World) (B:Nat) (Q:Dev→Prop) (p:Dev→Bool):Prop where
 enters:∀ args w,(callFunc g args).run Tryz.prog w=.ok (.enter g args) w
 gives:∀ (d:Dev) (A:Option Addr) (c:Nat) (W:World),devOk d→Sl W B A c d.attrs→Q d→Below w.heap.size w W→Calls Tryz.prog g (#[.agg #[.int .i64 d.idx,.int .i64 d.par,.string d.nm,.string d.orig,.string d.sub,.string d.drv,.string d.ali,.int .i64 d.kind,.int .i64 d.num,.slice A d.attrs.length c]] ++ caps) W fun e W'=>e=.returned (.bool (p d))∧Below W.heap.size W W'
theorem PredD.next {g:FuncId} {caps:Array Value} {w w':World} {B:Nat} {Q:Dev→Prop} {p:Dev→Bool} (h:PredD g caps w B Q p) (hb:Below w.heap.size w w'):PredD g caps w' B Q p :=
 ⟨h.enters,fun d A c W h1 h2 h3 hW=>h.gives d A c W h1 h2 h3 (hb.trans (hW.mono hb.size))⟩
set_option maxRecDepth 10000 in
theorem IndexFuncD_any (A:Option Addr) (c:Nat) (xs:List Dev) (g:FuncId) (caps:Array Value) (Q:Dev→Prop) (p:Dev→Bool) (w:World) (B:Nat) (hB:B≤w.heap.size) (hx:Sl w B A c xs) (hp:PredD g caps w B Q p) (hq:∀ d ∈ xs,Q d) :
  Calls Tryz.prog 79 #[.slice A xs.length c,.func (.func g) #[] caps] w fun e w'=>e=.returned (.int .i64 (idxInt p xs))∧Below w.heap.size w w':=by
 have hc:=hx.1;have hc2:=hx.2.1;unfold maxLen at hc2;have hen:=hp.enters;have HP:=Lh_ hp;clear hp;have HSl:=Lh_ hx;clear hx;have HQQ:=Lh_ hq;clear hq;have HB:=Lh_ hB;clear hB;go_enter Tryz.func79,Tryz.ntmps79;go_wp2;go_loopw [8] (fun i wr=>∃ k:Nat,k≤xs.length∧i=.int .i64 k∧Hid ((xs.take k).all (fun x=>!p x)=true)∧Below w.heap.size w wr) (fun i _=>xs.length - (intOf i).toNat)
 case atStart=>exact ⟨0,Nat.zero_le _,rfl,rfl,Below.refl _ _⟩
 case round =>
  obtain ⟨k,hk,rfl,HA,hb⟩:=hrel;by_cases hlt:k<xs.length
  ·
   obtain ⟨b3,o3,rfl,hb3,A2,c2,hok,hat,hcs⟩:=(HSl.out.keep (hb.mono HB.out)).dev hlt
   have hxk:xs[k]? = some xs[k]:=List.getElem?_eq_getElem hlt;have HQ:=Lh_ (HQQ.out _ (List.getElem_mem hlt));obtain ⟨x,hx⟩:∃ x,xs[k]'hlt=x:=⟨_,rfl⟩;rw [hx] at hok hat hcs hxk HQ;have HX:=Lh_ hxk;clear hxk;have HXX:=Lh_ hx;clear hx;have i1:(k:Int)<(xs.length:Int):=by omega
   have HCALL:=Lh_ (HP.out.gives x A2 c2 wr hok hat HQ.out hb);obtain ⟨cx0,cx1,cx2,cx3,cx4,cx5,cx6,cx7,cx8,cx9⟩:=hcs;go_wp2_with fail;refine Calls.mono (R:=fun e W'=>e=.returned (.bool (p x))∧Below wr.heap.size wr W') ?_ ?_
   · first | exact HCALL.out | simpa using HCALL.out
   rintro e w1 ⟨rfl,hb1⟩;have hb2:=hb.trans (hb1.mono hb.size);clear hb1 hb HCALL cx0 cx1 cx2 cx3 cx4 cx5 cx6 cx7 cx8 cx9 hok hat;cases hpx:p x with
   | true =>
    have HPX:=Lh_ hpx;clear hpx;go_wp2;go_ret;exact ⟨ret_int (idxInt_some hlt HA.out (by rw [HXX.out];exact HPX.out)).symm,hb2⟩
   | false =>
    have HPX:=Lh_ hpx;clear hpx;go_wp2;go_roundw
    case rel=>exact ⟨k+1,by omega,by go_num,all_step HA.out HX.out (by rw [HPX.out];rfl),hb2⟩
    case measure=>simp [intOf];omega
  ·
   go_wp2
   go_ret;exact ⟨ret_int (idxInt_none (all_end HA.out (by omega))).symm,hb⟩
end Go.Proofs.YtjgllhlilbchpaaGreatDoor
namespace Go.Cold
open Go Go.RowKit
def withinB (n lo hi:Int):Bool:=decide (lo≤n) && decide (n≤hi)
def rangeB (d:Dev):Bool:=withinB d.idx 1 1073741824 && (withinB d.par 0 1073741824 && !decide (d.par=d.idx))
def namedB (d:Dev):Bool:=validB d.nm && (validB d.orig && (validB d.sub && ((d.drv.toList.isEmpty || validB d.drv) && textB d.ali)))
def kindB (d:Dev):Bool:=if d.kind=4 then ifaceB d.nm && ifaceB d.orig else (decide (d.kind=1∨d.kind=2∨d.kind=3) && decide (d.nm=d.orig))
def kindN (k:Int):Bool:=decide (k=2∨k=3)
def numberB (d:Dev):Bool:=if kindN d.kind then withinB d.num 1 1073741824 else decide (d.num=0)
def attrsB (l:List Attr):Bool:=sortedA l && l.all attrB
def badA (a:Attr):Bool:=!validB a.name || (a.value.toList.isEmpty || !textB a.value)
theorem badA_not (a:Attr):(!badA a)=attrB a:=by
 unfold badA attrB;cases validB a.name <;> cases textB a.value <;> cases a.value.toList.isEmpty <;> rfl
theorem all_not_any {α:Type} (p q:α→Bool) (h:∀ a,(!p a)=q a):∀ l:List α,(!l.any p)=l.all q
 | []=>rfl
 | a :: r=>by rw [List.any_cons,List.all_cons,Bool.not_or,h,all_not_any p q h r]
def linkD (d:Dev):Bool:=match nodeD d with | some s=>linkB s | none=>true
theorem checkD_eq (d:Dev):checkD d=if rangeB d then (if namedB d then (if kindB d then (if numberB d then (if d.attrs.length≤24 then (if attrsB d.attrs then (if linkD d then 0 else 30) else 33) else 34) else 32) else 31) else 30) else 32:=by
 have h1:rangeB d=true↔¬ (d.idx<1∨1073741824<d.idx∨d.par<0∨1073741824<d.par∨d.par=d.idx):=by
  unfold rangeB withinB;simp only [Bool.and_eq_true,decide_eq_true_eq,Bool.not_eq_true',decide_eq_false_iff_not];omega
 have h2:namedB d=(validB d.nm && validB d.orig && validB d.sub && (d.drv.toList.isEmpty || validB d.drv) && textB d.ali):=by unfold namedB;simp only [Bool.and_assoc]
 have h3:kindB d=true↔¬ (d.kind<1∨4<d.kind)∧¬ ((d.kind=4∧(ifaceB d.nm && ifaceB d.orig)=false)∨(d.kind≠4∧d.nm≠d.orig)):=by
  unfold kindB;by_cases h4:d.kind=4
  · rw [if_pos h4];simp only [h4];cases (ifaceB d.nm && ifaceB d.orig) <;> simp
  ·
   rw [if_neg h4]
   simp only [Bool.and_eq_true,decide_eq_true_eq,h4,false_and,false_or,not_and,ne_eq,not_false_eq_true,Decidable.not_not,forall_const];constructor
   · rintro ⟨h5,h6⟩;exact ⟨by omega,h6⟩
   · rintro ⟨h5,h6⟩;exact ⟨by omega,h6⟩
 have hn:(nodeD d).isSome=kindN d.kind:=by unfold nodeD kindN;by_cases h:d.kind=2∨d.kind=3 <;> simp [h]
 have h5:numberB d=true↔¬ (((nodeD d).isSome=true∧(d.num<1∨1073741824<d.num))∨((nodeD d).isSome=false∧d.num≠0)):=by
  rw [hn];unfold numberB withinB;cases kindN d.kind
  · simp
  · simp only [if_true,Bool.and_eq_true,decide_eq_true_eq,true_and,Bool.true_eq_false,false_and,or_false];omega
 have h6:attrsB d.attrs=(d.attrs.all attrB && sortedA d.attrs):=by unfold attrsB;rw [Bool.and_comm]
 unfold checkD;rw [← h2,← h6];by_cases g1:rangeB d=true
 ·
  rw [if_neg (h1.1 g1),if_pos g1]
  cases g2:namedB d
  · simp
  ·
   simp only [if_true]
   by_cases g3:kindB d=true
   ·
    obtain ⟨g4,g5⟩:=h3.1 g3
    rw [if_neg g4,if_neg g5,if_pos g3];by_cases g6:numberB d=true
    ·
     rw [if_neg (h5.1 g6),if_pos g6]
     by_cases g7:d.attrs.length≤24
     ·
      rw [if_neg (by omega),if_pos g7]
      cases attrsB d.attrs
      · simp
      ·
       simp only [if_true]
       unfold linkD;cases nodeD d <;> simp
     · rw [if_pos (by omega),if_neg g7]
    · rw [if_neg g6,if_pos (Decidable.not_not.1 fun h=>g6 (h5.2 h))]
   ·
    rw [if_neg g3]
    by_cases g4:d.kind<1∨4<d.kind
    · rw [if_pos g4]
    · rw [if_neg g4,if_pos (Decidable.not_not.1 fun h=>g3 (h3.2 ⟨g4,h⟩))]
 · rw [if_pos (Decidable.not_not.1 fun h=>g1 (h1.2 h)),if_neg g1]
end Go.Cold
namespace Go.Proofs.YtjgllhlilbchpaaGreatDoor
open Go.RowKit Go.Cold
theorem within_any (n lo hi:Int) (w:World):Calls Tryz.prog 71 #[.int .i64 n,.int .i64 lo,.int .i64 hi] w fun e w'=>e=.returned (.bool (withinB n lo hi))∧w=w':=by
 by_cases h1:lo≤n
 ·
  by_cases h2:n≤hi
  ·
   have H:=Lh_ (show withinB n lo hi=true by unfold withinB;simp [h1,h2])
   go_enter Tryz.func71,Tryz.ntmps71;go_wp2;go_ret;exact ⟨ret_bool (by rw [H.out];try rfl),rfl⟩
  ·
   have H:=Lh_ (show withinB n lo hi=false by unfold withinB;simp [h1,h2])
   go_enter Tryz.func71,Tryz.ntmps71;go_wp2;go_ret;exact ⟨ret_bool (by rw [H.out];try rfl),rfl⟩
 ·
  have H:=Lh_ (show withinB n lo hi=false by unfold withinB;simp [h1])
  go_enter Tryz.func71,Tryz.ntmps71;go_wp2;go_ret;exact ⟨ret_bool (by rw [H.out];try rfl),rfl⟩
theorem numbered_any (k:Int) (w:World):Calls Tryz.prog 101 #[.int .i64 k] w fun e w'=>e=.returned (.bool (kindN k))∧w=w':=by
 by_cases h1:k=2
 ·
  have e1:(k == 2)=true:=beq_iff_eq.2 h1
  have H:=Lh_ (show kindN k=true by unfold kindN;simp [h1]);clear h1;go_enter Tryz.func101,Tryz.ntmps101;go_wp2;go_ret;exact ⟨ret_bool (by rw [H.out];try rfl),rfl⟩
 ·
  have e1:(k == 2)=false:=beq_eq_false_iff_ne.2 h1
  by_cases h2:k=3
  ·
   have e2:(k == 3)=true:=beq_iff_eq.2 h2
   have H:=Lh_ (show kindN k=true by unfold kindN;simp [h2]);clear h1 h2;go_enter Tryz.func101,Tryz.ntmps101;go_wp2;go_ret;exact ⟨ret_bool (by rw [H.out];try rfl),rfl⟩
  ·
   have e2:(k == 3)=false:=beq_eq_false_iff_ne.2 h2
   have H:=Lh_ (show kindN k=false by unfold kindN;simp [h1,h2]);clear h1 h2;go_enter Tryz.func101,Tryz.ntmps101;go_wp2;go_ret;exact ⟨ret_bool (by rw [H.out];try rfl),rfl⟩
set_option maxRecDepth 100000 in
theorem Node_any (d:Dev) (A:Option Addr) (c:Nat) (w:World) (hd:d.orig.size<4294967281) (hok:Ok w):Calls Tryz.prog 47 #[.agg #[.int .i64 d.idx,.int .i64 d.par,.string d.nm,.string d.orig,.string d.sub,.string d.drv,.string d.ali,.int .i64 d.kind,.int .i64 d.num,.slice A d.attrs.length c]] w fun e w'=>e=.returned (.tuple #[.string (nodeV d),.bool (nodeD d).isSome])∧Below w.heap.size w w':=by
 have HOK:=Lh_ hok;have HD:=Lh_ hd;clear hok hd;go_enter Tryz.func47,Tryz.ntmps47;go_upto_region 1 with fail
 obtain ⟨w1,hw1,hbw1,HGw1,HXpw1⟩:=bx_ w [.int .i64 d.idx,.int .i64 d.par,.string d.nm,.string d.orig,.string d.sub,.string d.drv,.string d.ali,.int .i64 d.kind,.int .i64 d.num,.slice A d.attrs.length c] 32;try simp only [hw1]
 have HBw1:=Lh_ hbw1;clear hw1 hbw1;try rw [← HGw1.out]
 have cp3:=HXpw1.out.1 3 _ rfl;have cp7:=HXpw1.out.1 7 _ rfl;go_wp2_with fail;refine (numbered_any d.kind _).mono ?_;rintro e w' ⟨rfl,rfl⟩;by_cases hk:d.kind=2∨d.kind=3
 ·
  have e1:kindN d.kind=true:=by unfold kindN;exact decide_eq_true hk
  have HN:=Lh_ (nodeD_yes hk);clear hk;go_wp2_with fail;refine (Replace_any d.orig _ HD.out (HOK.out.next HBw1.out)).mono ?_;rintro e w2 ⟨rfl,hbw2⟩;clear cp3 cp7;have HBw2:=tb_ HBw1 hbw2;have pw2:=kb_ HXpw1 hbw2;clear hbw2;go_wp2;go_ret2;exact ⟨by unfold nodeV;rw [HN.out];rfl,HBw2.out⟩
 ·
  have e1:kindN d.kind=false:=by unfold kindN;exact decide_eq_false hk
  have HN:=Lh_ (nodeD_no hk);clear hk;go_wp2;go_ret2;exact ⟨by unfold nodeV;rw [HN.out];rfl,HBw1.out⟩
set_option maxRecDepth 100000 in
set_option maxHeartbeats 1000000 in
theorem named_any (d:Dev) (A:Option Addr) (c:Nat) (w:World) (hok:devOk d):Calls Tryz.prog 72 #[.agg #[.int .i64 d.idx,.int .i64 d.par,.string d.nm,.string d.orig,.string d.sub,.string d.drv,.string d.ali,.int .i64 d.kind,.int .i64 d.num,.slice A d.attrs.length c]] w fun e w'=>e=.returned (.bool (namedB d))∧Below w.heap.size w w':=by
 obtain ⟨-,-,s1,s2,s3,s4,s5,-,-⟩:=hok;have HOKD:=Lh_ (And.intro s1 (And.intro s2 (And.intro s3 (And.intro s4 s5))));clear s1 s2 s3 s4 s5;go_enter Tryz.func72,Tryz.ntmps72;go_upto_region 1 with fail
 obtain ⟨w1,hw1,hbw1,HGw1,HXpw1⟩:=bx_ w [.int .i64 d.idx,.int .i64 d.par,.string d.nm,.string d.orig,.string d.sub,.string d.drv,.string d.ali,.int .i64 d.kind,.int .i64 d.num,.slice A d.attrs.length c] 32;try simp only [hw1]
 have HBw1:=Lh_ hbw1;clear hw1 hbw1;try rw [← HGw1.out]
 have cp2:=HXpw1.out.1 2 _ rfl;have cp3:=HXpw1.out.1 3 _ rfl;have cp4:=HXpw1.out.1 4 _ rfl;have cp5:=HXpw1.out.1 5 _ rfl;have cp6:=HXpw1.out.1 6 _ rfl;go_wp2_with fail;refine (Valid_any d.nm _ HOKD.out.1).mono ?_;rintro e w2 ⟨rfl,hbw2⟩;clear cp2 cp3 cp4 cp5 cp6;have HBw2:=tb_ HBw1 hbw2;have pw2:=kb_ HXpw1 hbw2;clear hbw2;have cp2:=pw2.out.1 2 _ rfl;have cp3:=pw2.out.1 3 _ rfl;have cp4:=pw2.out.1 4 _ rfl;have cp5:=pw2.out.1 5 _ rfl;have cp6:=pw2.out.1 6 _ rfl;cases h0:validB d.nm with
 | false =>
  have H0:=Lh_ h0;clear h0;go_wp2;go_ret;exact ⟨ret_bool (by unfold namedB;simp [H0.out]),HBw2.out⟩
 | true =>
  have H0:=Lh_ h0;clear h0;go_wp2_with fail;refine (Valid_any d.orig _ HOKD.out.2.1).mono ?_;rintro e w3 ⟨rfl,hbw3⟩;clear cp2 cp3 cp4 cp5 cp6;have HBw3:=tb_ HBw2 hbw3;have pw3:=kb_ pw2 hbw3;clear hbw3;have cp2:=pw3.out.1 2 _ rfl;have cp3:=pw3.out.1 3 _ rfl;have cp4:=pw3.out.1 4 _ rfl;have cp5:=pw3.out.1 5 _ rfl;have cp6:=pw3.out.1 6 _ rfl;cases h1:validB d.orig with
  | false =>
   have H1:=Lh_ h1;clear h1;go_wp2;go_ret;exact ⟨ret_bool (by unfold namedB;simp [H0.out,H1.out]),HBw3.out⟩
  | true =>
   have H1:=Lh_ h1;clear h1;go_wp2_with fail;refine (Valid_any d.sub _ HOKD.out.2.2.1).mono ?_;rintro e w4 ⟨rfl,hbw4⟩;clear cp2 cp3 cp4 cp5 cp6;have HBw4:=tb_ HBw3 hbw4;have pw4:=kb_ pw3 hbw4;clear hbw4;have cp2:=pw4.out.1 2 _ rfl;have cp3:=pw4.out.1 3 _ rfl;have cp4:=pw4.out.1 4 _ rfl;have cp5:=pw4.out.1 5 _ rfl;have cp6:=pw4.out.1 6 _ rfl;cases h2:validB d.sub with
   | false =>
    have H2:=Lh_ h2;clear h2;go_wp2;go_ret;exact ⟨ret_bool (by unfold namedB;simp [H0.out,H1.out,H2.out]),HBw4.out⟩
   | true =>
    have H2:=Lh_ h2;clear h2;cases h3:d.drv.toList.isEmpty with
    | true =>
     have H3:=Lh_ h3;have h3b:d.drv.toList=[]:=List.isEmpty_iff.1 h3;go_wp2_with fail;refine (Text_any d.ali _ HOKD.out.2.2.2.2).mono ?_;rintro e w' ⟨rfl,rfl⟩;cases h5:textB d.ali with
     | false =>
      have H5:=Lh_ h5;clear h5;go_wp2;go_ret;exact ⟨ret_bool (by unfold namedB;simp [H0.out,H1.out,H2.out,H3.out,H5.out]),HBw4.out⟩
     | true =>
      have H5:=Lh_ h5;clear h5;go_wp2;go_ret;exact ⟨ret_bool (by unfold namedB;simp [H0.out,H1.out,H2.out,H3.out,H5.out]),HBw4.out⟩
    | false =>
     have H3:=Lh_ h3;have h3b:¬ d.drv.toList=[]:=fun h=>by rw [h] at h3;cases h3
     go_wp2_with fail;refine (Valid_any d.drv _ HOKD.out.2.2.2.1).mono ?_;rintro e w5 ⟨rfl,hbw5⟩;clear cp2 cp3 cp4 cp5 cp6;have HBw5:=tb_ HBw4 hbw5;have pw5:=kb_ pw4 hbw5;clear hbw5;have cp2:=pw5.out.1 2 _ rfl;have cp3:=pw5.out.1 3 _ rfl;have cp4:=pw5.out.1 4 _ rfl;have cp5:=pw5.out.1 5 _ rfl;have cp6:=pw5.out.1 6 _ rfl;cases h4:validB d.drv with
     | false =>
      have H4:=Lh_ h4;clear h4;go_wp2;go_ret;exact ⟨ret_bool (by unfold namedB;simp [H0.out,H1.out,H2.out,H3.out,H4.out]),HBw5.out⟩
     | true =>
      have H4:=Lh_ h4;clear h4;go_wp2_with fail;refine (Text_any d.ali _ HOKD.out.2.2.2.2).mono ?_;rintro e w' ⟨rfl,rfl⟩;cases h5:textB d.ali with
      | false =>
       have H5:=Lh_ h5;clear h5;go_wp2;go_ret;exact ⟨ret_bool (by unfold namedB;simp [H0.out,H1.out,H2.out,H3.out,H4.out,H5.out]),HBw5.out⟩
      | true =>
       have H5:=Lh_ h5;clear h5;go_wp2;go_ret;exact ⟨ret_bool (by unfold namedB;simp [H0.out,H1.out,H2.out,H3.out,H4.out,H5.out]),HBw5.out⟩
set_option maxRecDepth 100000 in
theorem kind_any (d:Dev) (A:Option Addr) (c:Nat) (w:World) (hok:devOk d):Calls Tryz.prog 73 #[.agg #[.int .i64 d.idx,.int .i64 d.par,.string d.nm,.string d.orig,.string d.sub,.string d.drv,.string d.ali,.int .i64 d.kind,.int .i64 d.num,.slice A d.attrs.length c]] w fun e w'=>e=.returned (.bool (kindB d))∧Below w.heap.size w w':=by
 obtain ⟨-,-,s1,s2,-,-,-,-,-⟩:=hok;have HOKD:=Lh_ (And.intro s1 s2);clear s1 s2;go_enter Tryz.func73,Tryz.ntmps73;go_upto_region 1 with fail
 obtain ⟨w1,hw1,hbw1,HGw1,HXpw1⟩:=bx_ w [.int .i64 d.idx,.int .i64 d.par,.string d.nm,.string d.orig,.string d.sub,.string d.drv,.string d.ali,.int .i64 d.kind,.int .i64 d.num,.slice A d.attrs.length c] 32;try simp only [hw1]
 have HBw1:=Lh_ hbw1;clear hw1 hbw1;try rw [← HGw1.out]
 have cp2:=HXpw1.out.1 2 _ rfl;have cp3:=HXpw1.out.1 3 _ rfl;have cp7:=HXpw1.out.1 7 _ rfl;by_cases h4:d.kind=4
 ·
  have e4:(d.kind == 4)=true:=beq_iff_eq.2 h4;have H4:=Lh_ h4;clear h4;go_wp2_with fail;refine (Interface_any d.nm _ HOKD.out.1).mono ?_;rintro e w2 ⟨rfl,hbw2⟩;clear cp2 cp3 cp7;have HBw2:=tb_ HBw1 hbw2;have pw2:=kb_ HXpw1 hbw2;clear hbw2;have cp2:=pw2.out.1 2 _ rfl;have cp3:=pw2.out.1 3 _ rfl;have cp7:=pw2.out.1 7 _ rfl;cases h1:ifaceB d.nm with
  | false =>
   have H1:=Lh_ h1;clear h1;go_wp2;go_ret;exact ⟨ret_bool (by unfold kindB;rw [if_pos H4.out,H1.out];try rfl),HBw2.out⟩
  | true =>
   have H1:=Lh_ h1;clear h1;go_wp2_with fail;refine (Interface_any d.orig _ HOKD.out.2).mono ?_;rintro e w3 ⟨rfl,hbw3⟩;clear cp2 cp3 cp7;have HBw3:=tb_ HBw2 hbw3;have pw3:=kb_ pw2 hbw3;clear hbw3;go_wp2;go_ret;exact ⟨ret_bool (by unfold kindB;rw [if_pos H4.out,H1.out];try rfl),HBw3.out⟩
 ·
  have e4:(d.kind == 4)=false:=beq_eq_false_iff_ne.2 h4;have H4:=Lh_ h4;clear h4;by_cases h1:d.kind=1
  ·
   have e1:(d.kind == 1)=true:=beq_iff_eq.2 h1;have H1:=Lh_ h1;clear h1;go_wp2;go_ret;exact ⟨ret_bool (by unfold kindB;rw [if_neg H4.out,ba_beq];simp [H1.out]),HBw1.out⟩
  have e1:(d.kind == 1)=false:=beq_eq_false_iff_ne.2 h1;have H1:=Lh_ h1;clear h1;by_cases h2:d.kind=2
  ·
   have e2:(d.kind == 2)=true:=beq_iff_eq.2 h2;have H2:=Lh_ h2;clear h2;go_wp2;go_ret;exact ⟨ret_bool (by unfold kindB;rw [if_neg H4.out,ba_beq];simp [H2.out]),HBw1.out⟩
  have e2:(d.kind == 2)=false:=beq_eq_false_iff_ne.2 h2;have H2:=Lh_ h2;clear h2;by_cases h3:d.kind=3
  ·
   have e3:(d.kind == 3)=true:=beq_iff_eq.2 h3;have H3:=Lh_ h3;clear h3;go_wp2;go_ret;exact ⟨ret_bool (by unfold kindB;rw [if_neg H4.out,ba_beq];simp [H3.out]),HBw1.out⟩
  have e3:(d.kind == 3)=false:=beq_eq_false_iff_ne.2 h3;have H3:=Lh_ h3;clear h3;go_wp2;go_ret;exact ⟨ret_bool (by unfold kindB;rw [if_neg H4.out];simp [H1.out,H2.out,H3.out]),HBw1.out⟩
set_option maxRecDepth 100000 in
theorem number_any (d:Dev) (A:Option Addr) (c:Nat) (w:World):Calls Tryz.prog 74 #[.agg #[.int .i64 d.idx,.int .i64 d.par,.string d.nm,.string d.orig,.string d.sub,.string d.drv,.string d.ali,.int .i64 d.kind,.int .i64 d.num,.slice A d.attrs.length c]] w fun e w'=>e=.returned (.bool (numberB d))∧Below w.heap.size w w':=by
 go_enter Tryz.func74,Tryz.ntmps74;go_upto_region 1 with fail
 obtain ⟨w1,hw1,hbw1,HGw1,HXpw1⟩:=bx_ w [.int .i64 d.idx,.int .i64 d.par,.string d.nm,.string d.orig,.string d.sub,.string d.drv,.string d.ali,.int .i64 d.kind,.int .i64 d.num,.slice A d.attrs.length c] 32;try simp only [hw1]
 have HBw1:=Lh_ hbw1;clear hw1 hbw1;try rw [← HGw1.out]
 have cp7:=HXpw1.out.1 7 _ rfl;have cp8:=HXpw1.out.1 8 _ rfl;go_wp2_with fail;refine (numbered_any d.kind _).mono ?_;rintro e w' ⟨rfl,rfl⟩;cases hn:kindN d.kind with
 | true =>
  have HN:=Lh_ hn;clear hn;go_wp2_with fail;refine (within_any d.num 1 1073741824 _).mono ?_;rintro e w' ⟨rfl,rfl⟩;go_wp2;go_ret;exact ⟨ret_bool (by unfold numberB;rw [if_pos HN.out]),HBw1.out⟩
 | false =>
  have HN:=Lh_ hn;clear hn;go_wp2;go_ret;exact ⟨ret_bool (by unfold numberB;rw [if_neg (by rw [HN.out];decide)];rfl),HBw1.out⟩
set_option maxRecDepth 100000 in
theorem attributes1_any (w0:World) (B:Nat):PredA 119 #[] w0 B (fun _=>True) badA:=by
 refine ⟨enters_of Tryz.func119 (by kernel_rfl) rfl,fun d w hn hv _ hW=>?_⟩;have HN:=Lh_ hn;have HV:=Lh_ hv;clear hn hv hW;go_enter Tryz.func119,Tryz.ntmps119;go_upto_region 1 with fail
 obtain ⟨w1,hw1,hbw1,HGw1,HXpw1⟩:=bx_ w [.string d.name,.string d.value] 42;try simp only [hw1]
 have HBw1:=Lh_ hbw1;clear hw1 hbw1;try rw [← HGw1.out]
 have cp0:=HXpw1.out.1 0 _ rfl;have cp1:=HXpw1.out.1 1 _ rfl;go_wp2_with fail;refine (Valid_any d.name _ HN.out).mono ?_;rintro e w2 ⟨rfl,hbw2⟩;clear cp0 cp1;have HBw2:=tb_ HBw1 hbw2;have pw2:=kb_ HXpw1 hbw2;clear hbw2;have cp0:=pw2.out.1 0 _ rfl;have cp1:=pw2.out.1 1 _ rfl;cases h1:validB d.name with
 | false =>
  have H1:=Lh_ h1;clear h1;go_wp2;go_ret;exact ⟨ret_bool (by unfold badA;simp [H1.out]),HBw2.out⟩
 | true =>
  have H1:=Lh_ h1;clear h1;cases h3:d.value.toList.isEmpty with
  | true =>
   have H3:=Lh_ h3;have h3b:d.value.toList=[]:=List.isEmpty_iff.1 h3;go_wp2;go_ret;exact ⟨ret_bool (by unfold badA;simp [H1.out,H3.out]),HBw2.out⟩
  | false =>
   have H3:=Lh_ h3;have h3b:¬ d.value.toList=[]:=fun h=>by rw [h] at h3;cases h3
   go_wp2_with fail;refine (Text_any d.value _ HV.out).mono ?_;rintro e w' ⟨rfl,rfl⟩;cases h2:textB d.value with
   | false =>
    have H2:=Lh_ h2;clear h2;go_wp2;go_ret;exact ⟨ret_bool (by unfold badA;simp [H1.out,H3.out,H2.out]),HBw2.out⟩
   | true =>
    have H2:=Lh_ h2;clear h2;go_wp2;go_ret;exact ⟨ret_bool (by unfold badA;simp [H1.out,H3.out,H2.out]),HBw2.out⟩
set_option maxRecDepth 100000 in
theorem attributes_any (A:Option Addr) (c:Nat) (xs:List Attr) (w:World) (B:Nat) (hB:B≤w.heap.size) (hx:Sl w B A c xs):Calls Tryz.prog 75 #[.slice A xs.length c] w fun e w'=>e=.returned (.bool (attrsB xs))∧Below w.heap.size w w':=by
 have HX:=Lh_ hx;have HB:=Lh_ hB;clear hx hB;go_enter Tryz.func75,Tryz.ntmps75;go_wp2_with fail;refine (Sorted_any A c xs w B HX.out).mono ?_;rintro e w1 ⟨rfl,hb1⟩;have HB1:=Lh_ hb1;clear hb1;cases hs:sortedA xs with
 | false =>
  have HS:=Lh_ hs;clear hs;go_wp2;go_ret;exact ⟨ret_bool (by unfold attrsB;rw [HS.out];rfl),HB1.out⟩
 | true =>
  have HS:=Lh_ hs;clear hs;go_wp2_with fail;refine (ContainsFuncA_any A c xs _ _ _ _ w1 B (Nat.le_trans HB.out HB1.out.size) (HX.out.keep (HB1.out.mono HB.out)) (attributes1_any w1 B) (fun _ _=>trivial)).mono ?_;rintro e w2 ⟨rfl,hb2⟩;have HB2:=tb_ HB1 hb2;clear hb2;go_wp2;go_ret;exact ⟨ret_bool (by unfold attrsB;rw [HS.out,← all_not_any badA attrB badA_not];rfl),HB2.out⟩
end Go.Proofs.YtjgllhlilbchpaaGreatDoor
namespace Go.Cold
open Go Go.RowKit
class El (α:Type) where
 val:α→Value
 lit:α→Lit
 desc:TypeDesc
 ok:α→Prop
 zero:α
 zero_ok:ok zero
 rd:∀ {P:Program} {e:TypeId} {a:α},P.underlying e=some desc→ok a→plainElem (H:=Unit) P e (val a)=some (.lit (lit a),[])
 inv:∀ {P:Program} {e:TypeId} {v:Value} {z:DataW Unit × List MemPlace},P.underlying e=some desc→plainElem (H:=Unit) P e v=some z→∃ a,v=val a∧ok a∧z.1=.lit (lit a)
 inj:∀ {a b:α},lit a=lit b→a=b
instance:El ByteArray where
 val s:=.string s
 lit s:=.string s.data.toList
 desc:=.string
 ok s:=s.size≤maxLen
 zero:=ByteArray.empty
 zero_ok:=Nat.zero_le _
 rd he h:=plainElem_string he h
 inv {P e v z} he h:=by
  unfold plainElem at h;rw [he] at h;cases v <;> simp at h
  obtain ⟨hs,rfl⟩:=h;exact ⟨_,rfl,hs,rfl⟩
 inj {a b} h:=by
  injection h with h
  have h2:=Array.toList_inj.1 h;cases a;cases b;simp at h2;rw [h2]
theorem wf_i64 {a:Int}:(Lit.int .i64 a).wf=true↔okI a:=by
 unfold okI;simp [Lit.wf,IntKind.min,IntKind.max,IntKind.signed,IntKind.bits]
instance:El Int where
 val n:=.int .i64 n
 lit n:=.int .i64 n
 desc:=.int .i64
 ok n:=okI n
 zero:=0
 zero_ok:=⟨by decide,by decide⟩
 rd he h:=plainElem_int he (wf_i64.2 h)
 inv {P e v z} he h:=by
  obtain ⟨a,rfl,rfl,hw⟩:=plainElem_int_inv he h;exact ⟨a,rfl,wf_i64.1 hw,rfl⟩
 inj h:=by injection h
instance:El Bool where
 val x:=.bool x
 lit x:=.bool x
 desc:=.bool
 ok _:=True
 zero:=false
 zero_ok:=trivial
 rd he _:=plainElem_bool he _
 inv {P e v z} he h:=by
  unfold plainElem at h;rw [he] at h;cases v <;> simp at h
  subst h;exact ⟨_,rfl,trivial,rfl⟩
 inj h:=by injection h
def MapV {α:Type} [El α] (P:Program) (k e:TypeId) (w:World) (b n:Nat) (f:Int→Option α):Prop :=
 ∃ D:DataW Unit,w.ownsMap P k (plainElem P e) b n D∧∀ i,okI i→Maps.has D (.int .i64 i)=(f i).isSome∧(∀ z a,f i=some a→D.atKey (.int .i64 i) z=.lit (El.lit a))∧∀ z,f i=none→D.atKey (.int .i64 i) z=z
def updF {α:Type} (f:Int→Option α) (i:Int) (a:α):Int→Option α:=fun j=>if j=i then some a else f j
section
variable {α:Type} [El α] {P:Program} {k e t:TypeId} {w w':World} {b n:Nat} {f:Int→Option α}
theorem MapV.made (w:World) (P:Program) (k e:TypeId):MapV P k e (w.alloc (.map #[] 0)) w.heap.size 0 (fun _=>(none:Option α)) :=
 ⟨.map [],World.ownsMap_made w P k _,fun i _=>⟨rfl,(fun z a h=>by cases h),fun z _=>rfl⟩⟩
theorem MapV.kept {row:Option Nat} (h:MapV P k e w b n f) (hg:w.grownBy w' row) (hne:some b≠row):MapV P k e w' b n f:=by
 obtain ⟨D,h1,h2⟩:=h;exact ⟨D,h1.kept hg hne,h2⟩
theorem MapV.lt (h:MapV P k e w b n f):b<w.heap.size:=by obtain ⟨D,h1,_⟩:=h;exact h1.lt
theorem MapV.below {B:Nat} (h:MapV P k e w b n f) (hb:Below B w w') (hlt:b<B):MapV P k e w' b n f:=by
 obtain ⟨D,⟨es,clock,h1,h2⟩,h3⟩:=h;exact ⟨D,⟨es,clock,(hb.block b hlt).trans h1,h2⟩,h3⟩
theorem MapV.next (h:MapV P k e w b n f) (hb:Below w.heap.size w w'):MapV P k e w' b n f:=h.below hb h.lt
theorem MapV.mono {m:Nat} (h:MapV P k e w b n f) (hm:n≤m):MapV P k e w b m f:=by obtain ⟨D,h1,h2⟩:=h;exact ⟨D,h1.mono hm,h2⟩
theorem MapV.look_ok (h:MapV P k e w b n f) (ht:P.underlying t=some (.map k e)) (hk:P.underlying k=some (.int .i64)) (he:P.underlying e=some (El.desc (α:=α))) (hz:(zeroValue e).run P w=.ok (El.val (El.zero:α)) w) {i:Int} (hi:okI i) :
  (Instr.lookup t (.map (some b)) (.int .i64 i) true).run P w=.ok (.tuple #[El.val ((f i).getD El.zero),.bool (f i).isSome]) w:=by
 obtain ⟨D,h1,h2⟩:=h;obtain ⟨e1,e2,e3⟩:=h2 i hi;obtain ⟨v,ps,hr,hv⟩:=h1.look_ok (Maps.int_keyed hk) ht hz (El.rd he El.zero_ok) (Maps.keyOf_int_mk hk (wf_i64.2 hi));obtain ⟨a,rfl,ha,hd⟩:=El.inv he hv;rw [hr,e1];cases hf:f i with
 | none =>
  have h4:=e3 (.lit (El.lit (El.zero:α))) hf;rw [h4] at hd;have h5:El.lit (El.zero:α)=El.lit a:=by injection hd
  rw [← El.inj h5];rfl
 | some a' =>
  have h4:=e2 (.lit (El.lit (El.zero:α))) a' hf;rw [h4] at hd;have h5:El.lit a'=El.lit a:=by injection hd
  rw [← El.inj h5];rfl
theorem MapV.look (h:MapV P k e w b n f) (ht:P.underlying t=some (.map k e)) (hk:P.underlying k=some (.int .i64)) (he:P.underlying e=some (El.desc (α:=α))) (hz:(zeroValue e).run P w=.ok (El.val (El.zero:α)) w) {i:Int} (hi:okI i) :
  (Instr.lookup t (.map (some b)) (.int .i64 i) false).run P w=.ok (El.val ((f i).getD El.zero)) w:=by
 obtain ⟨D,h1,h2⟩:=h;obtain ⟨e1,e2,e3⟩:=h2 i hi;obtain ⟨v,ps,hr,hv⟩:=h1.lookup (Maps.int_keyed hk) ht hz (El.rd he El.zero_ok) (Maps.keyOf_int_mk hk (wf_i64.2 hi));obtain ⟨a,rfl,ha,hd⟩:=El.inv he hv;rw [hr];cases hf:f i with
 | none =>
  have h4:=e3 (.lit (El.lit (El.zero:α))) hf;rw [h4] at hd;have h5:El.lit (El.zero:α)=El.lit a:=by injection hd
  rw [← El.inj h5];rfl
 | some a' =>
  have h4:=e2 (.lit (El.lit (El.zero:α))) a' hf;rw [h4] at hd;have h5:El.lit a'=El.lit a:=by injection hd
  rw [← El.inj h5];rfl
end
end Go.Cold
namespace Go.Cold
open Go Go.RowKit
structure ElemT (P:Program) (n:Nat) (T TS:TypeId) (bytes:Nat):Prop where
 sl:P.underlying TS=some (.slice T)
 info:∃ i z,P.info? T=some i∧i.zero=some z∧i.size=n∧i.bytes=bytes∧z.cells.size=n
section
variable {P:Program} {α:Type} [RepS α] {F:Nat→Prop} {w:World} {base bytes:Nat} {T TS:TypeId} {ops:Array Oper} {rest:List Oper} {o:Oper} {a:Act} {Q:Exit→Act→World→Prop}
theorem wpList_app1 (E:ElemT P (Rep.size α) T TS bytes) (hgd:o.guard=none) (s x:Operand) (ho:o.op=.call { callee:=.builtin .append,args:=#[s,x],argTypes:=#[TS,TS] })
  (v:Value) (acc:List α) (hs:a.eval s=v) (h:OwnsS F w base T v acc) (g:Nat) (hx:a.eval x=.slice (some ⟨g,0,none⟩) 1 1) (y:α) (cs:List Value)
  (hc:∀ (j:Nat) u,cs[j]? = some u→w.cell? ⟨g,j,none⟩=some u) (hr:RepS.rdS w (fun b=>F b∧b<w.heap.size∧v.ownBlock≠some b) y cs)
  (h1:acc.length+1≤maxLen) (h2:(acc.length+1) * bytes≤140737488355328) (hb:base≤w.heap.size)
  (hK:∀ v' w',OwnsS F w' base T v' (acc ++ [y])→w.grownBy w' v.ownBlock→(∀ k,v'.ownBlock=some k→v.ownBlock=some k∨w.heap.size≤k)→wpList P ops Q rest (a.put o.dst v') w'):wpList P ops Q (o :: rest) a w:=by
 obtain ⟨i,z,hi,hz,hs1,hs2,hs3⟩:=E.info;obtain ⟨css,o1,o2,o3⟩:=h;refine wpList_append_own_at w hgd s x TS ho base T i z (Rep.size α) bytes E.sl hi hz hs1 hs2 hs3 RepS.pos v acc.length css.flatten hs o1 ⟨g,0,none⟩ 1 1 cs hx (by rw [RepS.lenS hr,Nat.one_mul]) (fun j u hu=>by rw [add_mk,Nat.zero_add];exact hc j u hu) (RepS.one hr) h1 h2 hb ?_;intro v' w' hown hg _ hat;have hnew:∀ k,v'.ownBlock=some k→v.ownBlock=some k∨w.heap.size≤k:=fun k hk=>hat.elim (fun h=>.inl (h.symm.trans hk)) (fun h=>.inr (by rw [hk] at h;have:=Option.some.inj h;omega))
 exact hK v' w' (OwnsS.app o1 o2 o3 hr hown hg hnew) hg hnew
theorem flat_len {α:Type} [RepS α] {w:World} {S:Nat→Prop}:∀ {ys:List α} {dss:List (List Value)},dss.length=ys.length→(∀ (i:Nat) (y:α) (cs:List Value),ys[i]? = some y→dss[i]? = some cs→RepS.rdS w S y cs)→dss.flatten.length=ys.length * Rep.size α∧∀ u ∈ dss.flatten,u.oneCell'=true
 | [],[],_,_=>⟨by simp,by simp⟩
 | [],_ :: _,h,_=>by simp at h
 | _ :: _,[],h,_=>by simp at h
 | y :: ys,d :: dss,h,hr=>by
  have h0:=hr 0 y d rfl rfl;obtain ⟨h1,h2⟩:=flat_len (ys:=ys) (dss:=dss) (by simpa using h) (fun i y cs hy hcs=>hr (i+1) y cs (by simpa using hy) (by simpa using hcs));refine ⟨by rw [List.flatten_cons,List.length_append,h1,RepS.lenS h0,List.length_cons,Nat.succ_mul,Nat.add_comm],fun u hu=>?_⟩;rw [List.flatten_cons,List.mem_append] at hu;exact hu.elim (RepS.one h0 u) (h2 u)
theorem SlS.rows {S:Nat→Prop} {A:Option Addr} {c:Nat} {ys:List α} (h:SlS w S A c ys) (h0:0<ys.length):∃ b o,A=some ⟨b,o,none⟩∧S b∧∃ dss:List (List Value),dss.length=ys.length∧(∀ (i:Nat) (y:α) (cs:List Value),ys[i]? = some y→dss[i]? = some cs→RepS.rdS w S y cs)∧
  ∀ j u,dss.flatten[j]? = some u→w.cell? ⟨b,o+j,none⟩=some u:=by
 obtain ⟨b,o,e,hb,hc⟩:=h.2.2 h0;refine ⟨b,o,e,hb,?_⟩;clear h h0;induction ys generalizing o A with
 | nil=>exact ⟨[],rfl,by simp,by simp⟩
 | cons y ys ih =>
  obtain ⟨cs,hr,hcs⟩:=hc 0 y rfl;obtain ⟨dss,h1,h2,h3⟩:=ih (A:=some ⟨b,o+Rep.size α,none⟩) (o+Rep.size α) rfl (fun i x hx=>by
   obtain ⟨cs,h4,h5⟩:=hc (i+1) x (by simpa using hx);exact ⟨cs,h4,fun j u hu=>by have:=h5 j u hu;rw [Nat.succ_mul] at this;rw [← this];congr 2;omega⟩)
  refine ⟨cs :: dss,by simp [h1],fun i x ds hx hds=>?_,fun j u hu=>?_⟩
  ·
   cases i with
   | zero=>simp at hx hds;subst hx;subst hds;exact hr
   | succ i=>exact h2 i x ds (by simpa using hx) (by simpa using hds)
  ·
   rw [List.flatten_cons] at hu
   by_cases hj:j<cs.length
   ·
    rw [List.getElem?_append_left hj] at hu
    have:=hcs j u hu;rw [Nat.zero_mul,Nat.zero_add] at this;exact this
   ·
    rw [List.getElem?_append_right (by omega)] at hu
    have:=h3 _ u hu;rw [RepS.lenS hr] at this hj;rw [← this];congr 2;omega
theorem run_appL (E:ElemT P (Rep.size α) T TS bytes) (ty:TypeId) (v:Value) (acc:List α) (h:OwnsS F w base T v acc) (A:Option Addr) (c:Nat) (ys:List α)
  (hy:SlS w (fun b=>F b∧b<w.heap.size∧v.ownBlock≠some b) A c ys∨ys=[]) (h1:acc.length+ys.length≤maxLen) (h2:(acc.length+ys.length) * bytes≤140737488355328) (hb:base≤w.heap.size) :
  ∃ v' w',(Builtin.append_ #[TS,TS] ty #[v,.slice A ys.length c]).run P w=.ok v' w'∧OwnsS F w' base T v' (acc ++ ys)∧w.grownBy w' v.ownBlock∧(∀ k,v'.ownBlock=some k→v.ownBlock=some k∨w.heap.size≤k):=by
 obtain ⟨i,z,hi,hz,hs1,hs2,hs3⟩:=E.info;obtain ⟨css,o1,o2,o3⟩:=h;rcases A with _ | A
 ·
  have h0:ys=[]:=by
   rcases hy with hy | hy
   ·
    rcases ys with _ | ⟨y,r⟩
    · rfl
    ·
     obtain ⟨b,o,e,_⟩:=hy.2.2 (by simp)
     cases e
   · exact hy
  subst h0;refine ⟨v,w,?_,by rw [List.append_nil];exact ⟨css,o1,o2,o3⟩,⟨rfl,rfl,rfl,Nat.le_refl _,fun _ _ _=>rfl⟩,fun k hk=>.inl hk⟩;rcases o1.2 with ⟨rfl,hn⟩ | ⟨g,cap,cur,rfl,_,_,hnc,_⟩
  · simp [Builtin.append_,run_underlying E.sl,sizeOf,typeInfo,hi,Builtin.lenOf,Builtin.firstCells]
  · simp [Builtin.append_,run_underlying E.sl,sizeOf,typeInfo,hi,Builtin.lenOf,Builtin.firstCells,hnc,storeCells]
 ·
  obtain ⟨dss,d1,d2,d3⟩:∃ dss:List (List Value),dss.length=ys.length∧(∀ (i:Nat) (y:α) (cs:List Value),ys[i]? = some y→dss[i]? = some cs→RepS.rdS w (fun b=>F b∧b<w.heap.size∧v.ownBlock≠some b) y cs)∧∀ j u,dss.flatten[j]? = some u→w.cell? (A.add j)=some u:=by
   rcases hy with hy | rfl
   ·
    rcases ys with _ | ⟨y,r⟩
    · exact ⟨[],rfl,by simp,by simp⟩
    ·
     obtain ⟨b,o,e,_,dss,d1,d2,d3⟩:=hy.rows (by simp)
     obtain rfl:=Option.some.inj e;exact ⟨dss,d1,d2,fun j u hu=>by rw [add_mk];exact d3 j u hu⟩
   · exact ⟨[],rfl,by simp,by simp⟩
  obtain ⟨f1,f2⟩:=flat_len d1 d2;obtain ⟨v',w',hr,hown,hg,_,hat⟩:=run_append_own_at (P:=P) w base TS ty T i z (Rep.size α) bytes E.sl hi hz hs1 hs2 hs3 RepS.pos v acc.length css.flatten o1 A ys.length c dss.flatten f1 d3 f2 h1 h2 hb;have hnew:∀ k,v'.ownBlock=some k→v.ownBlock=some k∨w.heap.size≤k:=fun k hk=>hat.elim (fun h=>.inl (h.symm.trans hk)) (fun h=>.inr (by rw [hk] at h;have:=Option.some.inj h;omega))
  exact ⟨v',w',hr,OwnsS.appL o1 o2 o3 d1 d2 hown hg hnew,hg,hnew⟩
theorem run_app1 (E:ElemT P (Rep.size α) T TS bytes) (ty:TypeId) (v:Value) (acc:List α) (h:OwnsS F w base T v acc) (g:Nat) (y:α) (cs:List Value)
  (hc:∀ (j:Nat) u,cs[j]? = some u→w.cell? ⟨g,j,none⟩=some u) (hr:RepS.rdS w (fun b=>F b∧b<w.heap.size∧v.ownBlock≠some b) y cs)
  (h1:acc.length+1≤maxLen) (h2:(acc.length+1) * bytes≤140737488355328) (hb:base≤w.heap.size) :
  ∃ v' w',(Builtin.append_ #[TS,TS] ty #[v,.slice (some ⟨g,0,none⟩) 1 1]).run P w=.ok v' w'∧OwnsS F w' base T v' (acc ++ [y])∧w.grownBy w' v.ownBlock∧(∀ k,v'.ownBlock=some k→v.ownBlock=some k∨w.heap.size≤k):=by
 obtain ⟨i,z,hi,hz,hs1,hs2,hs3⟩:=E.info;obtain ⟨css,o1,o2,o3⟩:=h;obtain ⟨v',w',hr',hown,hg,_,hat⟩:=run_append_own_at (P:=P) w base TS ty T i z (Rep.size α) bytes E.sl hi hz hs1 hs2 hs3 RepS.pos v acc.length css.flatten o1 ⟨g,0,none⟩ 1 1 cs (by rw [RepS.lenS hr,Nat.one_mul]) (fun j u hu=>by rw [add_mk,Nat.zero_add];exact hc j u hu) (RepS.one hr) h1 h2 hb;have hnew:∀ k,v'.ownBlock=some k→v.ownBlock=some k∨w.heap.size≤k:=fun k hk=>hat.elim (fun h=>.inl (h.symm.trans hk)) (fun h=>.inr (by rw [hk] at h;have:=Option.some.inj h;omega))
 exact ⟨v',w',hr',OwnsS.app o1 o2 o3 hr hown hg hnew,hg,hnew⟩
theorem step_app {K:Act→World→Prop} {Z:Prop} (hgd:o.guard=none) (s x:Operand) (ho:o.op=.call { callee:=.builtin .append,args:=#[s,x],argTypes:=#[TS,TS] }) (v u:Value) (hs:a.eval s=v) (hx:a.eval x=u)
  {R:Value→World→Prop} (hrun:∃ v' w',(Builtin.append_ #[TS,TS] o.type #[v,u]).run P w=.ok v' w'∧R v' w') (hK:∀ v' w',R v' w'→K (a.put o.dst v') w') :
  if Region.wanted o (yielded ops a.tmps)=true then Oper.wp P o a w K Q else Z:=by
 have hw:Region.wanted o (yielded ops a.tmps)=true:=by simp [Region.wanted,hgd]
 rw [if_pos hw];obtain ⟨v',w',hr,hR⟩:=hrun;unfold Oper.wp execOp;simp only [ho,resolve,invoke,builtin,Sem.run_bind,Sem.run_pure,Result.andThen_ok,List.map_toArray,List.map_cons,List.map_nil,hs,hx,hr];exact hK _ _ hR
theorem wpList_app {R:Value→World→Prop} (hgd:o.guard=none) (s x:Operand) (ho:o.op=.call { callee:=.builtin .append,args:=#[s,x],argTypes:=#[TS,TS] }) (v u:Value) (hs:a.eval s=v) (hx:a.eval x=u)
  (hrun:∃ v' w',(Builtin.append_ #[TS,TS] o.type #[v,u]).run P w=.ok v' w'∧R v' w') (hK:∀ v' w',R v' w'→wpList P ops Q rest (a.put o.dst v') w'):wpList P ops Q (o :: rest) a w:=by
 refine wpList_plain hgd fun K hK'=>?_
 obtain ⟨v',w',hr,hR⟩:=hrun;unfold Oper.wp execOp;simp only [ho,resolve,invoke,builtin,Sem.run_bind,Sem.run_pure,Result.andThen_ok,List.map_toArray,List.map_cons,List.map_nil,hs,hx,hr];exact hK' _ _ (hK _ _ hR)
end
theorem lit_cells {w w':World} {T:TypeId} {cs:Array Value} {l:List Value} (h:w.alloc (.cells cs T)=w') (hl:l=cs.toList):∀ (j:Nat) u,l[j]? = some u→w'.cell? ⟨w.heap.size,j,none⟩=some u:=by
 subst hl;exact (box_mk h).1
theorem ownsRow_low {w:World} {base base' n size:Nat} {T:TypeId} {v:Value} {xs:List Value} (h:w.ownsRow base T size v n xs) (hb:base'≤base):w.ownsRow base' T size v n xs:=by
 obtain ⟨h1,h2⟩:=h;refine ⟨h1,?_⟩;rcases h2 with h2 | ⟨g,cap,cur,e,hg,h3⟩
 · exact .inl h2
 · exact .inr ⟨g,cap,cur,e,Nat.le_trans hb hg,h3⟩
theorem OwnsS.low {α:Type} [RepS α] {F:Nat→Prop} {w:World} {base base':Nat} {T:TypeId} {v:Value} {xs:List α} (h:OwnsS F w base T v xs) (hb:base'≤base):OwnsS F w base' T v xs:=by
 obtain ⟨css,h1,h2⟩:=h;exact ⟨css,ownsRow_low h1 hb,h2⟩
theorem below_own {B:Nat} {a w w':World} {v:Value} (h:Below B a w) (hg:w.grownBy w' v.ownBlock) (hB:B≤w.heap.size) (hv:∀ k,v.ownBlock=some k→B≤k):Below B a w':=h.grown hg hB hv
end Go.Cold
namespace Go.Cold
open Go Go.RowKit
def foldI (v n:Int):Int:=if n≤1 then 0 else if v.tmod n<0 then v.tmod n+n else v.tmod n
theorem foldI_range {v n:Int} (h:1<n):0≤foldI v n∧foldI v n<n:=by
 unfold foldI;rw [if_neg (by omega)];have h1:=Int.tmod_lt_of_pos v (show 0<n by omega);have h2 : -n<v.tmod n:=by
  have:=Int.lt_tmod_of_pos v (show 0<n by omega);exact this
 split <;> omega
def TapeAt (w:World) (B b:Nat) (xs:List Int) (k:Nat):Prop:=∃ A c,w.cell? ⟨b,0,none⟩=some (.slice A xs.length c)∧w.cell? ⟨b,1,none⟩=some (.int .i64 k)∧
 (∀ j,w.frozen? ⟨b,j,none⟩=false)∧Sl w B A c xs∧B≤b∧b<w.heap.size
def tapeI (xs:List Int) (k:Nat):Int:=match xs[k]? with
 | some v=>v
 | none=>((k:Int) * 7).tmod 11
end Go.Cold
namespace Go.Proofs.YtjgllhlilbchpaaGreatDoor
open Go.RowKit Go.Cold

theorem Fold_any (v n:Int) (w:World) (hv:okI v) (hn:okI n):Calls Tryz.prog 31 #[.int .i64 v,.int .i64 n] w fun e w'=>e=.returned (.int .i64 (foldI v n))∧w=w':=by
 unfold okI at hv hn;by_cases h1:n≤1
 ·
  go_enter Tryz.func31,Tryz.ntmps31
  go_wp2;go_ret;exact ⟨ret_int (by rw [foldI,if_pos h1]),rfl⟩
 ·
  have h2:¬ n=0:=by omega
  have hlt:=Int.tmod_lt_of_pos v (show 0<n by omega);have hgt:=Int.lt_tmod_of_pos v (show 0<n by omega);have hnn:¬ n = -1:=by omega
  have hf:foldI v n=if v.tmod n<0 then v.tmod n+n else v.tmod n:=by rw [foldI,if_neg h1]
  have HF:=Lh_ hf;clear hf;by_cases h3:v.tmod n<0
  ·
   go_enter Tryz.func31,Tryz.ntmps31
   go_wp2;go_ret;exact ⟨ret_int (by rw [HF.out,if_pos h3]),rfl⟩
  ·
   go_enter Tryz.func31,Tryz.ntmps31
   go_wp2;go_ret;exact ⟨ret_int (by rw [HF.out,if_neg (by omega)]),rfl⟩

theorem set_at (w:World) (a:Addr) (v:Value) (h:(w.cell? a).isSome):(w.setCell a v).cell? a=some v:=World.cell?_setCell_same' w a v h
theorem tape_next {w:World} {B b c k:Nat} {A:Option Addr} {xs:List Int} (nq:Nat) (h0:w.cell? ⟨b,0,none⟩=some (.slice A xs.length c)) (h1:w.cell? ⟨b,1,none⟩=some (.int .i64 k))
  (hfr:∀ j,w.frozen? ⟨b,j,none⟩=false) (hsl:Sl w B A c xs) (hB:B≤b) (hlt:b<w.heap.size):TapeAt ((w.setCell ⟨b,1,none⟩ (.int .i64 ((k:Int)+1))).drewN nq) B b xs (k+1):=by
 have hb:Below B w ((w.setCell ⟨b,1,none⟩ (.int .i64 ((k:Int)+1))).drewN nq):=below_drewN ((Below.refl _ _).setCell hB _) nq;refine ⟨A,c,?_,?_,fun j=>?_,hsl.keep hb,hB,by simpa using hlt⟩
 · exact (World.cell?_setCell_other w ⟨b,1,none⟩ ⟨b,0,none⟩ _ (fun e=>by injection e with _ e;cases e)).trans h0
 · exact (set_at w _ _ (by rw [h1];rfl)).trans (by simp)
 · exact (World.frozen?_setCell w _ _ _).trans (hfr j)
theorem grown_next {w:World} {b:Nat} {v:Value} (nq:Nat) (_hlt:b<w.heap.size):w.grownBy ((w.setCell ⟨b,1,none⟩ v).drewN nq) (some b):=by
 refine ⟨rfl,rfl,rfl,by simp,fun k hk hne=>?_⟩;have hne':¬ k=b:=fun e=>hne (by rw [e])
 exact Below.heap_setCell _ _ _ _ (by show ¬ _ ;simp;omega)
theorem tape_step {w:World} {B b c k:Nat} {A:Option Addr} {xs:List Int} (nq:Nat) (h0:w.cell? ⟨b,0,none⟩=some (.slice A xs.length c)) (h1:w.cell? ⟨b,1,none⟩=some (.int .i64 k))
  (hfr:∀ j,w.frozen? ⟨b,j,none⟩=false) (hsl:Sl w B A c xs) (hB:B≤b) (hlt:b<w.heap.size):TapeAt ((w.setCell ⟨b,1,none⟩ (.int .i64 ((k:Int)+1))).drewN nq) B b xs (k+1)∧w.grownBy ((w.setCell ⟨b,1,none⟩ (.int .i64 ((k:Int)+1))).drewN nq) (some b) :=
 ⟨tape_next nq h0 h1 hfr hsl hB hlt,grown_next nq hlt⟩
def NextPost (xs:List Int) (k:Nat) (B b:Nat) (n:Int) (w:World) (e:Ending) (w':World):Prop:=e=.returned (.int .i64 (foldI (tapeI xs k) n))∧TapeAt w' B b xs (k+1)∧w.grownBy w' (some b)
set_option maxRecDepth 10000 in
theorem Next_any (xs:List Int) (k B b:Nat) (n:Int) (w:World) (hn:okI n) (hk:k≤2 ^ 40) (ht:TapeAt w B b xs k):Calls Tryz.prog 37 #[.pointer (some ⟨b,0,none⟩),.int .i64 n] w (NextPost xs k B b n w):=by
 obtain ⟨A,c,h0,h1,hfr,hsl,hB,hlt⟩:=ht;have hx1:=hsl.1;have hx2:=hsl.2.1;unfold maxLen at hx2;have HSL:=Lh_ hsl;clear hsl;by_cases hin:k<xs.length
 ·
  obtain ⟨b3,o3,rfl,hb3,cx,hr⟩:=HSL.out.int hin
  have hv:tapeI xs k=xs[k]:=by unfold tapeI;rw [List.getElem?_eq_getElem hin]
  obtain ⟨v,hvv⟩:∃ v,xs[k]=v:=⟨_,rfl⟩;rw [hvv] at cx hr hv;have HV:=Lh_ hv;clear hv hvv;have i1:(k:Int)<(xs.length:Int):=by omega
  have hok:okI v:=by unfold okI;omega
  go_enter Tryz.func37,Tryz.ntmps37;go_wp2_with fail;go_quiet (fail)
  go_wp2_with fail;go_quiet (fail)
  go_wp2_with fail;refine (Fold_any v n _ hok hn).mono ?_;rintro e w' ⟨rfl,rfl⟩;obtain ⟨z,hz⟩:∃ z,foldI v n=z:=⟨_,rfl⟩;rw [hz];have HZ:=Lh_ hz;clear hz;go_wp2;go_ret;exact ⟨ret_int (by rw [HV.out,HZ.out]),tape_step _ h0 h1 hfr HSL.out hB hlt⟩
 ·
  have hv:tapeI xs k=((k:Int) * 7) % 11:=by
   unfold tapeI;rw [List.getElem?_eq_none (by omega)];show ((k:Int) * 7).tmod 11=_
   rw [Int.tmod_eq_emod_of_nonneg (by omega)]
  have HV:=Lh_ hv;clear hv;have i1:¬ (k:Int)<(xs.length:Int):=by omega
  have hok:okI (((k:Int) * 7) % 11):=by unfold okI;omega
  go_enter Tryz.func37,Tryz.ntmps37;go_wp2_with fail;go_quiet (fail)
  go_wp2_with fail;refine (Fold_any _ n _ hok hn).mono ?_;rintro e w' ⟨rfl,rfl⟩;obtain ⟨z,hz⟩:∃ z,foldI (((k:Int) * 7) % 11) n=z:=⟨_,rfl⟩;rw [hz];have HZ:=Lh_ hz;clear hz;go_wp2;go_ret;exact ⟨ret_int (by rw [HV.out,HZ.out]),tape_step _ h0 h1 hfr HSL.out hB hlt⟩

def OnePost (xs:List Int) (k B b:Nat) (ys:List ByteArray) (w:World) (e:Ending) (w':World):Prop:=e=.returned (.string (ys.getD (foldI (tapeI xs k) ys.length).toNat ⟨#[]⟩))∧TapeAt w' B b xs (k+1)∧w.grownBy w' (some b)
set_option maxRecDepth 10000 in
theorem One_any (xs:List Int) (k B b:Nat) (ys:List ByteArray) (b2 o2 c2:Nat) (w:World) (hk:k≤2 ^ 40) (ht:TapeAt w B b xs k) (h0:1<ys.length) (hy:ys.length≤100) (hc:ys.length≤c2) (hc2:c2≤maxLen) (hne:¬ b2=b)
  (hcell:∀ (i:Nat) y,ys[i]? = some y→w.cell? ⟨b2,o2+i,none⟩=some (.string y)) :
  Calls Tryz.prog 35 #[.pointer (some ⟨b,0,none⟩),.slice (some ⟨b2,o2,none⟩) ys.length c2] w (OnePost xs k B b ys w):=by
 have hf:=@foldI_range (tapeI xs k) ys.length (by omega);have hz:((ys.length:Int) == 0)=false:=by simp;rintro rfl;simp at h0
 have hcall:=Next_any xs k B b ys.length w (by unfold okI;omega) hk ht;have HCALL:=Lh_ hcall;clear hcall ht;have HCELL:=Lh_ hcell;clear hcell;unfold maxLen at hc2;go_enter Tryz.func35,Tryz.ntmps35;go_wp2_with fail;refine HCALL.out.mono ?_;rintro e w1 ⟨rfl,htape,hg⟩;obtain ⟨m,hm⟩:=Int.eq_ofNat_of_zero_le hf.1;have hml:m<ys.length:=by omega
 have hget:ys[m]? = some ys[m]:=List.getElem?_eq_getElem hml;have hD:ys.getD (foldI (tapeI xs k) ys.length).toNat ⟨#[]⟩=ys[m]:=by rw [hm,List.getD_eq_getElem?_getD,Int.toNat_natCast,hget];rfl
 have hc1:=hg.cell (HCELL.out m ys[m] hget) (fun e=>hne (Option.some.inj e));rw [hm] at hf ⊢;obtain ⟨y,hyy⟩:∃ y,ys[m]=y:=⟨_,rfl⟩;rw [hyy] at hc1 hD;have HD:=Lh_ hD;clear hD hget hyy hm;have HT:=Lh_ htape;have HG:=Lh_ hg;clear htape hg;have i1:(m:Int)<(ys.length:Int):=by omega
 go_wp2;go_ret;exact ⟨ret_str (by rw [HD.out]),HT.out,HG.out⟩
end Go.Proofs.YtjgllhlilbchpaaGreatDoor
namespace Go.Cold
open Go Go.RowKit
theorem TapeAt.kept {w w':World} {B b k:Nat} {xs:List Int} {row:Option Nat} (h:TapeAt w B b xs k) (hg:w.grownBy w' row) (hne:some b≠row) (hB:∀ g,row=some g→B≤g):TapeAt w' B b xs k:=by
 obtain ⟨A,c,h0,h1,hf,hsl,hBb,hlt⟩:=h;have hh:=hg.block b hlt hne;have hbl:Below B w w':=(Below.refl B w).grown hg (by omega) hB;exact ⟨A,c,(cell_heap hh 0).trans h0,(cell_heap hh 1).trans h1,fun j=>(frozen_heap hh j).trans (hf j),hsl.keep hbl,hBb,Nat.lt_of_lt_of_le hlt hg.size⟩
theorem TapeAt.set_ {w:World} {B b k g j:Nat} {xs:List Int} (h:TapeAt w B b xs k) (hne:g≠b) (hB:B≤g) (v:Value):TapeAt (w.setCell ⟨g,j,none⟩ v) B b xs k:=by
 obtain ⟨A,c,h0,h1,hf,hsl,hBb,hlt⟩:=h;exact ⟨A,c,(cell_set_far w ⟨g,j,none⟩ v b 0 hne).trans h0,(cell_set_far w ⟨g,j,none⟩ v b 1 hne).trans h1,fun i=>(World.frozen?_setCell w _ _ _).trans (hf i),hsl.keep ((Below.refl _ _).setCell (by exact hB) _),hBb,by simpa using hlt⟩
theorem foldI_pos {v n:Int} (h:1≤n):0≤foldI v n∧foldI v n<n:=by
 by_cases h1:1<n
 · exact foldI_range h1
 · unfold foldI;rw [if_pos (by omega)];omega
end Go.Cold
