/-
  The walks of layer 3: both Sorted.
-/
import Derived.Test.YtjpoljlgkgmdkaaGreatDoorMTK
import Derived.Maps.Views
import Derived.Maps.OwnSet
import Derived.Maps.Keyed
import Derived.Test.YtjpoljlgkgmdkaaGreatDoorMShf
import Derived.Maps.OwnIn
import Derived.Lib.ItoaNum
import Derived.Lib.AtoiAllCases
import Derived.Lib.AppendIntMem
import Derived.Test.YtjpoljlgkgmdkaaGreatDoorCards
import Derived.Test.YtjpoljlgkgmdkaaGreatDoorTie
import Derived.ProofKit
import Derived.OpenShut
import Derived.Below
import Derived.ChangeSame
import Derived.Deep.DeepHandedRow
import Derived.Lay
import Derived.SevenTiedAt
import Derived.SliceStrings
import Derived.WideKeyArgs
import Derived.Stop.LaidErr
import Derived.ChangeSlices
import Derived.Test.YtjpoljlgkgmdkaaGreatDoorRows
set_option linter.unusedSimpArgs false
set_option linter.unusedVariables false
namespace Go.Cold
open Go Go.RowKit Go.Proofs.YtjpoljlgkgmdkaaGreatDoor
open Go.Proofs hiding intOf
theorem sorted_snoc:∀ (l:List Attr) (a b:Attr),sortedA (l ++ [a,b])=(sortedA (l ++ [a]) && strLt a.name b.name)
 | [],a,b=>by simp [sortedA]
 | [x],a,b=>by simp [sortedA]
 | x :: y :: l,a,b=>by
  have h:=sorted_snoc (y :: l) a b;simp only [List.cons_append] at h ⊢;rw [sortedA,sortedA,h,Bool.and_assoc]
theorem sorted_left:∀ (l r:List Attr),sortedA (l ++ r)=true→sortedA l=true
 | [],r,h=>rfl
 | [x],r,h=>rfl
 | x :: y :: l,r,h=>by
  simp only [List.cons_append] at h;rw [sortedA,Bool.and_eq_true] at h;rw [sortedA,Bool.and_eq_true];exact ⟨h.1,sorted_left (y :: l) r h.2⟩
theorem sorted_step {xs:List Attr} {j:Nat} {a b:Attr} (h:j+1<xs.length) (ha:xs[j]? = some a) (hb:xs[j+1]? = some b):sortedA (xs.take (j+1+1))=(sortedA (xs.take (j+1)) && strLt a.name b.name):=by
 have A:xs.take (j+1)=xs.take j ++ [a]:=by rw [List.take_add_one,ha];rfl
 have B:xs.take (j+1+1)=xs.take j ++ [a,b]:=by rw [List.take_add_one,hb,A];simp
 rw [B,A,sorted_snoc]
theorem sorted_false {xs:List Attr} {k:Nat} (h:sortedA (xs.take k)=false):sortedA xs=false:=by
 cases hs:sortedA xs with
 | false=>rfl
 | true =>
  rw [← List.take_append_drop k xs] at hs;rw [sorted_left _ _ hs] at h;cases h
set_option maxRecDepth 100000 in
theorem RSorted_any (A:Option Addr) (c:Nat) (xs:List Attr) (w:World) (B:Nat) (hx:Sl w B A c xs) :
  Calls Tryz.prog 61 #[.slice A xs.length c] w fun e w'=>e=.returned (.bool (sortedA xs))∧Below w.heap.size w w':=by
 have V:=hx.1;have L:=hx.2.1;unfold maxLen at L;have N:=Lh_ hx;clear hx;go_enter Tryz.func61,Tryz.ntmps61;go_wp2;go_loopw [3] (fun i wr=>∃ j n:Nat,(j+1≤xs.length∨j=0)∧i=.int .i64 ((j:Int)+1)∧wr=w.drewN n∧Hid (sortedA (xs.take (j+1))=true)) (fun i _=>xs.length - (intOf i).toNat)
 case atStart =>
  refine ⟨0,0,.inr rfl,by first | rfl | simp,rfl,?_⟩;show sortedA (xs.take 1)=true
  rcases xs with _ | ⟨a,r⟩ <;> rfl
 obtain ⟨j,n,J,rfl,rfl,M⟩:=hrel;by_cases hlt:j+1<xs.length
 ·
  have C:j<xs.length:=by omega
  obtain ⟨P,U,rfl,_,_,R,_⟩:=N.out.attr C;obtain ⟨Q,o4,D,_,_,S,_⟩:=N.out.attr hlt;obtain ⟨rfl,rfl⟩:P=Q∧U=o4:=by injection D with D;injection D with h1 h2;exact ⟨h1,h2⟩
  clear D;have T:(j:Int)+1<(xs.length:Int):=by omega
  have G:=sorted_step hlt (List.getElem?_eq_getElem C) (List.getElem?_eq_getElem hlt);obtain ⟨x,hxx⟩:∃ x,xs[j]'C=x:=⟨_,rfl⟩;obtain ⟨y,hyy⟩:∃ y,xs[j+1]'hlt=y:=⟨_,rfl⟩;rw [hxx,hyy] at G;rw [hxx] at R;rw [hyy] at S;have H:=Lh_ G;clear hxx hyy G;have I:IntKind.i64.wrap ((j:Int)+1 - 1)=(j:Int):=by rw [Int.add_sub_cancel];exact IntWalk.i64_in _ (by omega)
  have E:IntKind.i64.wrap (j:Int)=(j:Int):=IntWalk.i64_in _ (by omega);have F:((j:Int)+1).toNat=j+1:=by omega
  have W:0≤(j:Int)+1:=by omega
  cases hs:Op.bytesLess x.name.toList y.name.toList with
  | true =>
   go_wp2;go_quiet (fail)
   clear I E F;go_wp2;go_roundw
   case rel=>exact ⟨j+1,_,.inl (by omega),by first | rfl | go_num,rfl,by rw [H.out,M.out];exact hs⟩
   simp [intOf];omega
  | false =>
   have K:=Lh_ (sorted_false (show sortedA (xs.take (j+1+1))=false by rw [H.out];unfold strLt;rw [hs,Bool.and_false]));go_wp2;go_quiet (fail)
   clear I E F;go_wp2;go_ret;exact ⟨ret_bool (by rw [K.out];try rfl),below_drewN (below_drewN_self _ _ _) _⟩
 have T:¬ (j:Int)+1<(xs.length:Int):=by omega
 have O:sortedA xs=true:=by
  have h:=M.out;rcases J with J | J
  · rwa [List.take_of_length_le (by omega)] at h
  subst J;rwa [List.take_of_length_le (by omega)] at h
 have K:=Lh_ O;clear O;go_wp2;go_ret;exact ⟨ret_bool (by rw [K.out];try rfl),below_drewN_self _ _ _⟩

structure PredA (g:FuncId) (caps:Array Value) (w:World) (B:Nat) (Q:Attr→Prop) (p:Attr→Bool):Prop where
 enters:∀ args w,(callFunc g args).run Tryz.prog w=.ok (.enter g args) w
 gives:∀ (d:Attr) (W:World),d.name.size≤maxLen→d.value.size≤maxLen→Q d→Below w.heap.size w W→Calls Tryz.prog g (#[.agg #[.string d.name,.string d.value]] ++ caps) W fun e W'=>e=.returned (.bool (p d))∧Below W.heap.size W W'
theorem PredA.next {g:FuncId} {caps:Array Value} {w w':World} {B:Nat} {Q:Attr→Prop} {p:Attr→Bool} (h:PredA g caps w B Q p) (hb:Below w.heap.size w w'):PredA g caps w' B Q p :=
 ⟨h.enters,fun d W h1 h2 h3 hW=>h.gives d W h1 h2 h3 (hb.trans (hW.mono hb.size))⟩
structure PredD (g:FuncId) (caps:Array Value) (w:World) (B:Nat) (Q:Dev→Prop) (p:Dev→Bool):Prop where
 enters:∀ args w,(callFunc g args).run Tryz.prog w=.ok (.enter g args) w
 gives:∀ (d:Dev) (A:Option Addr) (c:Nat) (W:World),devOk d→Sl W B A c d.attrs→Q d→Below w.heap.size w W→Calls Tryz.prog g (#[.agg #[.int .i64 d.idx,.int .i64 d.par,.string d.nm,.string d.orig,.string d.sub,.string d.drv,.string d.ali,.int .i64 d.kind,.int .i64 d.num,.slice A d.attrs.length c]] ++ caps) W fun e W'=>e=.returned (.bool (p d))∧Below W.heap.size W W'
theorem PredD.next {g:FuncId} {caps:Array Value} {w w':World} {B:Nat} {Q:Dev→Prop} {p:Dev→Bool} (h:PredD g caps w B Q p) (hb:Below w.heap.size w w'):PredD g caps w' B Q p :=
 ⟨h.enters,fun d A c W h1 h2 h3 hW=>h.gives d A c W h1 h2 h3 (hb.trans (hW.mono hb.size))⟩
set_option maxRecDepth 10000 in
theorem IndexFuncD_any (A:Option Addr) (c:Nat) (xs:List Dev) (g:FuncId) (caps:Array Value) (Q:Dev→Prop) (p:Dev→Bool) (w:World) (B:Nat) (hB:B≤w.heap.size) (hx:Sl w B A c xs) (hp:PredD g caps w B Q p) (hq:∀ d ∈ xs,Q d) :
  Calls Tryz.prog 146 #[.slice A xs.length c,.func (.func g) #[] caps] w fun e w'=>e=.returned (.int .i64 (idxInt p xs))∧Below w.heap.size w w':=by
 have hc:=hx.1;have C0:=hx.2.1;unfold maxLen at C0;have K0:=hp.enters;have HP:=Lh_ hp;clear hp;have N:=Lh_ hx;clear hx;have M:=Lh_ hq;clear hq;have HB:=Lh_ hB;clear hB;go_enter Tryz.func146,Tryz.ntmps146;go_wp2;go_loopw [8] (fun i wr=>∃ k:Nat,k≤xs.length∧i=.int .i64 k∧Hid ((xs.take k).all (fun x=>!p x)=true)∧Below w.heap.size w wr) (fun i _=>xs.length - (intOf i).toNat)
 case atStart=>exact ⟨0,Nat.zero_le _,rfl,rfl,Below.refl _ _⟩
 obtain ⟨k,hk,rfl,L,H⟩:=hrel;by_cases hlt:k<xs.length
 ·
  obtain ⟨b3,o3,rfl,J0,A2,c2,F,E,K⟩:=(N.out.keep (H.mono HB.out)).dev hlt
  have G:xs[k]? = some xs[k]:=List.getElem?_eq_getElem hlt;have HQ:=Lh_ (M.out _ (List.getElem_mem hlt));obtain ⟨x,hx⟩:∃ x,xs[k]'hlt=x:=⟨_,rfl⟩;rw [hx] at F E K G HQ;have HX:=Lh_ G;clear G;have O:=Lh_ hx;clear hx;have i1:(k:Int)<(xs.length:Int):=by omega
  have C:=Lh_ (HP.out.gives x A2 c2 wr F E HQ.out H);obtain ⟨P,S,T,U,V,X,Y,Z,A0,B0⟩:=K;go_wp2_with fail;refine Calls.mono (R:=fun e W'=>e=.returned (.bool (p x))∧Below wr.heap.size wr W') ?_ ?_
  · first | exact C.out | simpa using C.out
  rintro e w1 ⟨rfl,I⟩;have J:=H.trans (I.mono H.size);clear I H C P S T U V X Y Z A0 B0 F E;cases hpx:p x with
  | true =>
   have D:=Lh_ hpx;clear hpx;go_wp2;go_ret;exact ⟨ret_int (idxInt_some hlt L.out (by rw [O.out];exact D.out)).symm,J⟩
  | false =>
   have D:=Lh_ hpx;clear hpx;go_wp2;go_roundw
   case rel=>exact ⟨k+1,by omega,by go_num,all_step L.out HX.out (by rw [D.out];rfl),J⟩
   simp [intOf];omega
 go_wp2;go_ret;exact ⟨ret_int (idxInt_none (all_end L.out (by omega))).symm,H⟩
def withinB (n lo hi:Int):Bool:=decide (lo≤n) && decide (n≤hi)
def rangeB (d:Dev):Bool:=withinB d.idx 1 1073741824 && (withinB d.par 0 1073741824 && !decide (d.par=d.idx))
def namedB (d:Dev):Bool:=validB d.nm && (validB d.orig && (validB d.sub && ((d.drv.toList.isEmpty || validB d.drv) && textB d.ali)))
def kindB (d:Dev):Bool:=if d.kind=4 then ifaceB d.nm && ifaceB d.orig else (decide (d.kind=1∨d.kind=2∨d.kind=3) && decide (d.nm=d.orig))
def kindN (k:Int):Bool:=decide (k=2∨k=3)
def numberB (d:Dev):Bool:=if kindN d.kind then withinB d.num 1 1073741824 else decide (d.num=0)
def attrsB (l:List Attr):Bool:=sortedA l && l.all attrB
def linkD (d:Dev):Bool:=match nodeD d with | some s=>linkB s | none=>true
theorem checkD_eq (d:Dev):checkD d=if rangeB d then (if namedB d then (if kindB d then (if numberB d then (if d.attrs.length≤24 then (if attrsB d.attrs then (if linkD d then 0 else 30) else 33) else 34) else 32) else 31) else 30) else 32:=by
 have D:rangeB d=true↔¬ (d.idx<1∨1073741824<d.idx∨d.par<0∨1073741824<d.par∨d.par=d.idx):=by
  unfold rangeB withinB;simp only [Bool.and_eq_true,decide_eq_true_eq,Bool.not_eq_true',decide_eq_false_iff_not];omega
 have G:namedB d=(validB d.nm && validB d.orig && validB d.sub && (d.drv.toList.isEmpty || validB d.drv) && textB d.ali):=by unfold namedB;simp only [Bool.and_assoc]
 have E:kindB d=true↔¬ (d.kind<1∨4<d.kind)∧¬ ((d.kind=4∧(ifaceB d.nm && ifaceB d.orig)=false)∨(d.kind≠4∧d.nm≠d.orig)):=by
  unfold kindB;by_cases h4:d.kind=4
  · rw [if_pos h4];simp only [h4];cases (ifaceB d.nm && ifaceB d.orig) <;> simp
  rw [if_neg h4];simp only [Bool.and_eq_true,decide_eq_true_eq,h4,false_and,false_or,not_and,ne_eq,not_false_eq_true,Decidable.not_not,forall_const];constructor
  · rintro ⟨C,B⟩;exact ⟨by omega,B⟩
  rintro ⟨C,B⟩;exact ⟨by omega,B⟩
 have H:(nodeD d).isSome=kindN d.kind:=by unfold nodeD kindN;by_cases h:d.kind=2∨d.kind=3 <;> simp [h]
 have C:numberB d=true↔¬ (((nodeD d).isSome=true∧(d.num<1∨1073741824<d.num))∨((nodeD d).isSome=false∧d.num≠0)):=by
  rw [H];unfold numberB withinB;cases kindN d.kind
  · simp
  simp only [if_true,Bool.and_eq_true,decide_eq_true_eq,true_and,Bool.true_eq_false,false_and,or_false];omega
 have B:attrsB d.attrs=(d.attrs.all attrB && sortedA d.attrs):=by unfold attrsB;rw [Bool.and_comm]
 unfold checkD;rw [← G,← B];by_cases g1:rangeB d=true
 ·
  rw [if_neg (D.1 g1),if_pos g1]
  cases g2:namedB d
  · simp
  simp only [if_true];by_cases g3:kindB d=true
  ·
   obtain ⟨A,F⟩:=E.1 g3
   rw [if_neg A,if_neg F,if_pos g3];by_cases g6:numberB d=true
   ·
    rw [if_neg (C.1 g6),if_pos g6]
    by_cases g7:d.attrs.length≤24
    ·
     rw [if_neg (by omega),if_pos g7]
     cases attrsB d.attrs
     · simp
     simp only [if_true];unfold linkD;cases nodeD d <;> simp
    rw [if_pos (by omega),if_neg g7]
   rw [if_neg g6,if_pos (Decidable.not_not.1 fun h=>g6 (C.2 h))]
  rw [if_neg g3];by_cases A:d.kind<1∨4<d.kind
  · rw [if_pos A]
  rw [if_neg A,if_pos (Decidable.not_not.1 fun h=>g3 (E.2 ⟨A,h⟩))]
 rw [if_pos (Decidable.not_not.1 fun h=>g1 (D.2 h)),if_neg g1]
theorem numbered_any (k:Int) (w:World):Calls Tryz.prog 120 #[.int .i64 k] w fun e w'=>e=.returned (.bool (kindN k))∧w=w':=by
 by_cases h1:k=2
 ·
  have A:(k == 2)=true:=beq_iff_eq.2 h1
  have H:=Lh_ (show kindN k=true by unfold kindN;simp [h1]);clear h1;go_enter Tryz.func120,Tryz.ntmps120;go_wp2;go_ret;exact ⟨ret_bool (by rw [H.out];try rfl),rfl⟩
 have A:(k == 2)=false:=beq_eq_false_iff_ne.2 h1;by_cases h2:k=3
 ·
  have B:(k == 3)=true:=beq_iff_eq.2 h2
  have H:=Lh_ (show kindN k=true by unfold kindN;simp [h2]);clear h1 h2;go_enter Tryz.func120,Tryz.ntmps120;go_wp2;go_ret;exact ⟨ret_bool (by rw [H.out];try rfl),rfl⟩
 have B:(k == 3)=false:=beq_eq_false_iff_ne.2 h2;have H:=Lh_ (show kindN k=false by unfold kindN;simp [h1,h2]);clear h1 h2;go_enter Tryz.func120,Tryz.ntmps120;go_wp2;go_ret;exact ⟨ret_bool (by rw [H.out];try rfl),rfl⟩
set_option maxRecDepth 100000 in
theorem Node_any (d:Dev) (A:Option Addr) (c:Nat) (w:World) (hd:d.orig.size<4294967281) (hok:Ok w):Calls Tryz.prog 69 #[.agg #[.int .i64 d.idx,.int .i64 d.par,.string d.nm,.string d.orig,.string d.sub,.string d.drv,.string d.ali,.int .i64 d.kind,.int .i64 d.num,.slice A d.attrs.length c]] w fun e w'=>e=.returned (.tuple #[.string (nodeV d),.bool (nodeD d).isSome])∧Below w.heap.size w w':=by
 have J:=Lh_ hok;have M:=Lh_ hd;clear hok hd;go_enter Tryz.func69,Tryz.ntmps69;go_upto_region 1 with fail
 obtain ⟨P,H,E,G,B⟩:=bx_ w [.int .i64 d.idx,.int .i64 d.par,.string d.nm,.string d.orig,.string d.sub,.string d.drv,.string d.ali,.int .i64 d.kind,.int .i64 d.num,.slice A d.attrs.length c] 84;try simp only [H]
 have C:=Lh_ E;clear H E;try rw [← G.out]
 have K:=B.out.1 3 _ rfl;have L:=B.out.1 7 _ rfl;go_wp2_with fail;refine (numbered_any d.kind _).mono ?_;rintro e w' ⟨rfl,rfl⟩;by_cases hk:d.kind=2∨d.kind=3
 ·
  have N:kindN d.kind=true:=by unfold kindN;exact decide_eq_true hk
  have I:=Lh_ (nodeD_yes hk);clear hk;go_wp2_with fail;refine (Replace_any d.orig _ M.out (J.out.next C.out)).mono ?_;rintro e w2 ⟨rfl,D⟩;clear K L;have F:=tb_ C D;have O:=kb_ B D;clear D;go_wp2;go_ret2;exact ⟨by unfold nodeV;rw [I.out];rfl,F.out⟩
 have N:kindN d.kind=false:=by unfold kindN;exact decide_eq_false hk
 have I:=Lh_ (nodeD_no hk);clear hk;go_wp2;go_ret2;exact ⟨by unfold nodeV;rw [I.out];rfl,C.out⟩
class El (α:Type) where
 val:α→Value
 lit:α→Lit
 desc:TypeDesc
 ok:α→Prop
 zero:α
 zero_ok:ok zero
 rd:∀ {P:Program} {e:TypeId} {a:α},P.underlying e=some desc→ok a→plainElem (H:=Unit) P e (val a)=some (.lit (lit a),[])
 inv:∀ {P:Program} {e:TypeId} {v:Value} {z:DataW Unit × List MemPlace},P.underlying e=some desc→plainElem (H:=Unit) P e v=some z→∃ a,v=val a∧ok a∧z.1=.lit (lit a)
 inj:∀ {a b:α},lit a=lit b→a=b
instance:El ByteArray where
 val s:=.string s
 lit s:=.string s.data.toList
 desc:=.string
 ok s:=s.size≤maxLen
 zero:=ByteArray.empty
 zero_ok:=Nat.zero_le _
 rd he h:=plainElem_string he h
 inv {P e v z} he h:=by
  unfold plainElem at h;rw [he] at h;cases v <;> simp at h
  obtain ⟨hs,rfl⟩:=h;exact ⟨_,rfl,hs,rfl⟩
 inj {a b} h:=by
  injection h with h
  have h2:=Array.toList_inj.1 h;cases a;cases b;simp at h2;rw [h2]
theorem wf_i64 {a:Int}:(Lit.int .i64 a).wf=true↔okI a:=by
 unfold okI;simp [Lit.wf,IntKind.min,IntKind.max,IntKind.signed,IntKind.bits]
instance:El Int where
 val n:=.int .i64 n
 lit n:=.int .i64 n
 desc:=.int .i64
 ok n:=okI n
 zero:=0
 zero_ok:=⟨by decide,by decide⟩
 rd he h:=plainElem_int he (wf_i64.2 h)
 inv {P e v z} he h:=by
  obtain ⟨a,rfl,rfl,hw⟩:=plainElem_int_inv he h;exact ⟨a,rfl,wf_i64.1 hw,rfl⟩
 inj h:=by injection h
instance:El Bool where
 val x:=.bool x
 lit x:=.bool x
 desc:=.bool
 ok _:=True
 zero:=false
 zero_ok:=trivial
 rd he _:=plainElem_bool he _
 inv {P e v z} he h:=by
  unfold plainElem at h;rw [he] at h;cases v <;> simp at h
  subst h;exact ⟨_,rfl,trivial,rfl⟩
 inj h:=by injection h
def MapV {α:Type} [El α] (P:Program) (k e:TypeId) (w:World) (b n:Nat) (f:Int→Option α):Prop :=
 ∃ D:DataW Unit,w.ownsMap P k (plainElem P e) b n D∧∀ i,okI i→Maps.has D (.int .i64 i)=(f i).isSome∧(∀ z a,f i=some a→D.atKey (.int .i64 i) z=.lit (El.lit a))∧∀ z,f i=none→D.atKey (.int .i64 i) z=z
def updF {α:Type} (f:Int→Option α) (i:Int) (a:α):Int→Option α:=fun j=>if j=i then some a else f j
section
variable {α:Type} [El α] {P:Program} {k e t:TypeId} {w w':World} {b n:Nat} {f:Int→Option α}
theorem MapV.made (w:World) (P:Program) (k e:TypeId):MapV P k e (w.alloc (.map #[] 0)) w.heap.size 0 (fun _=>(none:Option α)) :=
 ⟨.map [],World.ownsMap_made w P k _,fun i _=>⟨rfl,(fun z a h=>by cases h),fun z _=>rfl⟩⟩
theorem MapV.kept {row:Option Nat} (h:MapV P k e w b n f) (hg:w.grownBy w' row) (hne:some b≠row):MapV P k e w' b n f:=by
 obtain ⟨D,A,B⟩:=h;exact ⟨D,A.kept hg hne,B⟩
theorem MapV.lt (h:MapV P k e w b n f):b<w.heap.size:=by obtain ⟨D,A,_⟩:=h;exact A.lt
theorem MapV.below {B:Nat} (h:MapV P k e w b n f) (hb:Below B w w') (hlt:b<B):MapV P k e w' b n f:=by
 obtain ⟨D,⟨C,A,E,F⟩,G⟩:=h;exact ⟨D,⟨C,A,(hb.block b hlt).trans E,F⟩,G⟩
theorem MapV.next (h:MapV P k e w b n f) (hb:Below w.heap.size w w'):MapV P k e w' b n f:=h.below hb h.lt
theorem MapV.mono {m:Nat} (h:MapV P k e w b n f) (hm:n≤m):MapV P k e w b m f:=by obtain ⟨D,A,B⟩:=h;exact ⟨D,A.mono hm,B⟩
theorem MapV.look_ok (h:MapV P k e w b n f) (ht:P.underlying t=some (.map k e)) (hk:P.underlying k=some (.int .i64)) (he:P.underlying e=some (El.desc (α:=α))) (hz:(zeroValue e).run P w=.ok (El.val (El.zero:α)) w) {i:Int} (hi:okI i) :
  (Instr.lookup t (.map (some b)) (.int .i64 i) true).run P w=.ok (.tuple #[El.val ((f i).getD El.zero),.bool (f i).isSome]) w:=by
 obtain ⟨D,H,I⟩:=h;obtain ⟨E,F,G⟩:=I i hi;obtain ⟨v,M,J,K⟩:=H.look_ok (Maps.int_keyed hk) ht hz (El.rd he El.zero_ok) (Maps.keyOf_int_mk hk (wf_i64.2 hi));obtain ⟨a,rfl,L,A⟩:=El.inv he K;rw [J,E];cases hf:f i with
 | none =>
  have B:=G (.lit (El.lit (El.zero:α))) hf;rw [B] at A;have C:El.lit (El.zero:α)=El.lit a:=by injection A
  rw [← El.inj C];rfl
 | some a' =>
  have B:=F (.lit (El.lit (El.zero:α))) a' hf;rw [B] at A;have C:El.lit a'=El.lit a:=by injection A
  rw [← El.inj C];rfl
theorem MapV.look (h:MapV P k e w b n f) (ht:P.underlying t=some (.map k e)) (hk:P.underlying k=some (.int .i64)) (he:P.underlying e=some (El.desc (α:=α))) (hz:(zeroValue e).run P w=.ok (El.val (El.zero:α)) w) {i:Int} (hi:okI i) :
  (Instr.lookup t (.map (some b)) (.int .i64 i) false).run P w=.ok (El.val ((f i).getD El.zero)) w:=by
 obtain ⟨D,G,H⟩:=h;obtain ⟨K,E,F⟩:=H i hi;obtain ⟨v,M,I,J⟩:=G.lookup (Maps.int_keyed hk) ht hz (El.rd he El.zero_ok) (Maps.keyOf_int_mk hk (wf_i64.2 hi));obtain ⟨a,rfl,L,A⟩:=El.inv he J;rw [I];cases hf:f i with
 | none =>
  have B:=F (.lit (El.lit (El.zero:α))) hf;rw [B] at A;have C:El.lit (El.zero:α)=El.lit a:=by injection A
  rw [← El.inj C];rfl
 | some a' =>
  have B:=E (.lit (El.lit (El.zero:α))) a' hf;rw [B] at A;have C:El.lit a'=El.lit a:=by injection A
  rw [← El.inj C];rfl
end
structure ElemT (P:Program) (n:Nat) (T TS:TypeId) (bytes:Nat):Prop where
 sl:P.underlying TS=some (.slice T)
 info:∃ i z,P.info? T=some i∧i.zero=some z∧i.size=n∧i.bytes=bytes∧z.cells.size=n
section
variable {P:Program} {α:Type} [RepS α] {F:Nat→Prop} {w:World} {base bytes:Nat} {T TS:TypeId} {ops:Array Oper} {rest:List Oper} {o:Oper} {a:Act} {Q:Exit→Act→World→Prop}
theorem wpList_app1 (E:ElemT P (Rep.size α) T TS bytes) (hgd:o.guard=none) (s x:Operand) (ho:o.op=.call { callee:=.builtin .append,args:=#[s,x],argTypes:=#[TS,TS] })
  (v:Value) (acc:List α) (hs:a.eval s=v) (h:OwnsS F w base T v acc) (g:Nat) (hx:a.eval x=.slice (some ⟨g,0,none⟩) 1 1) (y:α) (cs:List Value)
  (hc:∀ (j:Nat) u,cs[j]? = some u→w.cell? ⟨g,j,none⟩=some u) (hr:RepS.rdS w (fun b=>F b∧b<w.heap.size∧v.ownBlock≠some b) y cs)
  (h1:acc.length+1≤maxLen) (h2:(acc.length+1) * bytes≤140737488355328) (hb:base≤w.heap.size)
  (hK:∀ v' w',OwnsS F w' base T v' (acc ++ [y])→w.grownBy w' v.ownBlock→(∀ k,v'.ownBlock=some k→v.ownBlock=some k∨w.heap.size≤k)→wpList P ops Q rest (a.put o.dst v') w'):wpList P ops Q (o :: rest) a w:=by
 obtain ⟨i,z,I,J,C,D,G⟩:=E.info;obtain ⟨B,H,K,L⟩:=h;refine wpList_append_own_at w hgd s x TS ho base T i z (Rep.size α) bytes E.sl I J C D G RepS.pos v acc.length B.flatten hs H ⟨g,0,none⟩ 1 1 cs hx (by rw [RepS.lenS hr,Nat.one_mul]) (fun j u hu=>by rw [add_mk,Nat.zero_add];exact hc j u hu) (RepS.one hr) h1 h2 hb ?_;intro v' w' hown hg _ hat;have A:∀ k,v'.ownBlock=some k→v.ownBlock=some k∨w.heap.size≤k:=fun k hk=>hat.elim (fun h=>.inl (h.symm.trans hk)) (fun h=>.inr (by rw [hk] at h;have:=Option.some.inj h;omega))
 exact hK v' w' (OwnsS.app H K L hr hown hg A) hg A
theorem flat_len {α:Type} [RepS α] {w:World} {S:Nat→Prop}:∀ {ys:List α} {dss:List (List Value)},dss.length=ys.length→(∀ (i:Nat) (y:α) (cs:List Value),ys[i]? = some y→dss[i]? = some cs→RepS.rdS w S y cs)→dss.flatten.length=ys.length * Rep.size α∧∀ u ∈ dss.flatten,u.oneCell'=true
 | [],[],_,_=>⟨by simp,by simp⟩
 | [],_ :: _,h,_=>by simp at h
 | _ :: _,[],h,_=>by simp at h
 | y :: ys,d :: dss,h,hr=>by
  have h0:=hr 0 y d rfl rfl;obtain ⟨h1,h2⟩:=flat_len (ys:=ys) (dss:=dss) (by simpa using h) (fun i y cs hy hcs=>hr (i+1) y cs (by simpa using hy) (by simpa using hcs));refine ⟨by rw [List.flatten_cons,List.length_append,h1,RepS.lenS h0,List.length_cons,Nat.succ_mul,Nat.add_comm],fun u hu=>?_⟩;rw [List.flatten_cons,List.mem_append] at hu;exact hu.elim (RepS.one h0 u) (h2 u)
theorem SlS.rows {S:Nat→Prop} {A:Option Addr} {c:Nat} {ys:List α} (h:SlS w S A c ys) (h0:0<ys.length):∃ b o,A=some ⟨b,o,none⟩∧S b∧∃ dss:List (List Value),dss.length=ys.length∧(∀ (i:Nat) (y:α) (cs:List Value),ys[i]? = some y→dss[i]? = some cs→RepS.rdS w S y cs)∧
  ∀ j u,dss.flatten[j]? = some u→w.cell? ⟨b,o+j,none⟩=some u:=by
 obtain ⟨b,o,e,J,C⟩:=h.2.2 h0;refine ⟨b,o,e,J,?_⟩;clear h h0;induction ys generalizing o A with
 | nil=>exact ⟨[],rfl,by simp,by simp⟩
 | cons y ys ih =>
  obtain ⟨cs,D,B⟩:=C 0 y rfl;obtain ⟨dss,E,F,G⟩:=ih (A:=some ⟨b,o+Rep.size α,none⟩) (o+Rep.size α) rfl (fun i x hx=>by
   obtain ⟨cs,H,I⟩:=C (i+1) x (by simpa using hx);exact ⟨cs,H,fun j u hu=>by have:=I j u hu;rw [Nat.succ_mul] at this;rw [← this];congr 2;omega⟩)
  refine ⟨cs :: dss,by simp [E],fun i x ds hx hds=>?_,fun j u hu=>?_⟩
  ·
   cases i with
   | zero=>simp at hx hds;subst hx;subst hds;exact D
   | succ i=>exact F i x ds (by simpa using hx) (by simpa using hds)
  rw [List.flatten_cons] at hu;by_cases hj:j<cs.length
  ·
   rw [List.getElem?_append_left hj] at hu
   have:=B j u hu;rw [Nat.zero_mul,Nat.zero_add] at this;exact this
  rw [List.getElem?_append_right (by omega)] at hu;have:=G _ u hu;rw [RepS.lenS D] at this hj;rw [← this];congr 2;omega
theorem run_appL (E:ElemT P (Rep.size α) T TS bytes) (ty:TypeId) (v:Value) (acc:List α) (h:OwnsS F w base T v acc) (A:Option Addr) (c:Nat) (ys:List α)
  (hy:SlS w (fun b=>F b∧b<w.heap.size∧v.ownBlock≠some b) A c ys∨ys=[]) (h1:acc.length+ys.length≤maxLen) (h2:(acc.length+ys.length) * bytes≤140737488355328) (hb:base≤w.heap.size) :
  ∃ v' w',(Builtin.append_ #[TS,TS] ty #[v,.slice A ys.length c]).run P w=.ok v' w'∧OwnsS F w' base T v' (acc ++ ys)∧w.grownBy w' v.ownBlock∧(∀ k,v'.ownBlock=some k→v.ownBlock=some k∨w.heap.size≤k):=by
 obtain ⟨i,z,M,Z,N,O,Q⟩:=E.info;obtain ⟨D,J,S,U⟩:=h;rcases A with _ | A
 ·
  have X:ys=[]:=by
   rcases hy with hy | hy
   ·
    rcases ys with _ | ⟨y,r⟩
    · rfl
    obtain ⟨b,o,e,_⟩:=hy.2.2 (by simp);cases e
   exact hy
  subst X;refine ⟨v,w,?_,by rw [List.append_nil];exact ⟨D,J,S,U⟩,⟨rfl,rfl,rfl,Nat.le_refl _,fun _ _ _=>rfl⟩,fun k hk=>.inl hk⟩;rcases J.2 with ⟨rfl,hn⟩ | ⟨g,cap,cur,rfl,_,_,hnc,_⟩
  · simp [Builtin.append_,run_underlying E.sl,sizeOf,typeInfo,M,Builtin.lenOf,Builtin.firstCells]
  simp [Builtin.append_,run_underlying E.sl,sizeOf,typeInfo,M,Builtin.lenOf,Builtin.firstCells,hnc,storeCells]
 obtain ⟨B,H,I,K⟩:∃ B:List (List Value),B.length=ys.length∧(∀ (i:Nat) (y:α) (cs:List Value),ys[i]? = some y→B[i]? = some cs→RepS.rdS w (fun b=>F b∧b<w.heap.size∧v.ownBlock≠some b) y cs)∧∀ j u,B.flatten[j]? = some u→w.cell? (A.add j)=some u:=by
  rcases hy with hy | rfl
  ·
   rcases ys with _ | ⟨y,r⟩
   · exact ⟨[],rfl,by simp,by simp⟩
   obtain ⟨b,o,e,_,B,H,I,K⟩:=hy.rows (by simp);obtain rfl:=Option.some.inj e;exact ⟨B,H,I,fun j u hu=>by rw [add_mk];exact K j u hu⟩
  exact ⟨[],rfl,by simp,by simp⟩
 obtain ⟨V,W⟩:=flat_len H I;obtain ⟨v',w',Y,G,R,_,L⟩:=run_append_own_at (P:=P) w base TS ty T i z (Rep.size α) bytes E.sl M Z N O Q RepS.pos v acc.length D.flatten J A ys.length c B.flatten V K W h1 h2 hb;have C:∀ k,v'.ownBlock=some k→v.ownBlock=some k∨w.heap.size≤k:=fun k hk=>L.elim (fun h=>.inl (h.symm.trans hk)) (fun h=>.inr (by rw [hk] at h;have:=Option.some.inj h;omega))
 exact ⟨v',w',Y,OwnsS.appL J S U H I G R C,R,C⟩
theorem run_app1 (E:ElemT P (Rep.size α) T TS bytes) (ty:TypeId) (v:Value) (acc:List α) (h:OwnsS F w base T v acc) (g:Nat) (y:α) (cs:List Value)
  (hc:∀ (j:Nat) u,cs[j]? = some u→w.cell? ⟨g,j,none⟩=some u) (hr:RepS.rdS w (fun b=>F b∧b<w.heap.size∧v.ownBlock≠some b) y cs)
  (h1:acc.length+1≤maxLen) (h2:(acc.length+1) * bytes≤140737488355328) (hb:base≤w.heap.size) :
  ∃ v' w',(Builtin.append_ #[TS,TS] ty #[v,.slice (some ⟨g,0,none⟩) 1 1]).run P w=.ok v' w'∧OwnsS F w' base T v' (acc ++ [y])∧w.grownBy w' v.ownBlock∧(∀ k,v'.ownBlock=some k→v.ownBlock=some k∨w.heap.size≤k):=by
 obtain ⟨i,z,L,M,G,H,I⟩:=E.info;obtain ⟨C,K,N,O⟩:=h;obtain ⟨v',w',hr',B,J,_,D⟩:=run_append_own_at (P:=P) w base TS ty T i z (Rep.size α) bytes E.sl L M G H I RepS.pos v acc.length C.flatten K ⟨g,0,none⟩ 1 1 cs (by rw [RepS.lenS hr,Nat.one_mul]) (fun j u hu=>by rw [add_mk,Nat.zero_add];exact hc j u hu) (RepS.one hr) h1 h2 hb;have A:∀ k,v'.ownBlock=some k→v.ownBlock=some k∨w.heap.size≤k:=fun k hk=>D.elim (fun h=>.inl (h.symm.trans hk)) (fun h=>.inr (by rw [hk] at h;have:=Option.some.inj h;omega))
 exact ⟨v',w',hr',OwnsS.app K N O hr B J A,J,A⟩
theorem step_app {K:Act→World→Prop} {Z:Prop} (hgd:o.guard=none) (s x:Operand) (ho:o.op=.call { callee:=.builtin .append,args:=#[s,x],argTypes:=#[TS,TS] }) (v u:Value) (hs:a.eval s=v) (hx:a.eval x=u)
  {R:Value→World→Prop} (hrun:∃ v' w',(Builtin.append_ #[TS,TS] o.type #[v,u]).run P w=.ok v' w'∧R v' w') (hK:∀ v' w',R v' w'→K (a.put o.dst v') w') :
  if Region.wanted o (yielded ops a.tmps)=true then Oper.wp P o a w K Q else Z:=by
 have C:Region.wanted o (yielded ops a.tmps)=true:=by simp [Region.wanted,hgd]
 rw [if_pos C];obtain ⟨v',w',B,A⟩:=hrun;unfold Oper.wp execOp;simp only [ho,resolve,invoke,builtin,Sem.run_bind,Sem.run_pure,Result.andThen_ok,List.map_toArray,List.map_cons,List.map_nil,hs,hx,B];exact hK _ _ A
theorem wpList_app {R:Value→World→Prop} (hgd:o.guard=none) (s x:Operand) (ho:o.op=.call { callee:=.builtin .append,args:=#[s,x],argTypes:=#[TS,TS] }) (v u:Value) (hs:a.eval s=v) (hx:a.eval x=u)
  (hrun:∃ v' w',(Builtin.append_ #[TS,TS] o.type #[v,u]).run P w=.ok v' w'∧R v' w') (hK:∀ v' w',R v' w'→wpList P ops Q rest (a.put o.dst v') w'):wpList P ops Q (o :: rest) a w:=by
 refine wpList_plain hgd fun K hK'=>?_
 obtain ⟨v',w',B,A⟩:=hrun;unfold Oper.wp execOp;simp only [ho,resolve,invoke,builtin,Sem.run_bind,Sem.run_pure,Result.andThen_ok,List.map_toArray,List.map_cons,List.map_nil,hs,hx,B];exact hK' _ _ (hK _ _ A)
end
theorem lit_cells {w w':World} {T:TypeId} {cs:Array Value} {l:List Value} (h:w.alloc (.cells cs T)=w') (hl:l=cs.toList):∀ (j:Nat) u,l[j]? = some u→w'.cell? ⟨w.heap.size,j,none⟩=some u:=by
 subst hl;exact (box_mk h).1
theorem ownsRow_low {w:World} {base base' n size:Nat} {T:TypeId} {v:Value} {xs:List Value} (h:w.ownsRow base T size v n xs) (hb:base'≤base):w.ownsRow base' T size v n xs:=by
 obtain ⟨B,A⟩:=h;refine ⟨B,?_⟩;rcases A with A | ⟨g,cap,cur,e,hg,h3⟩
 · exact .inl A
 exact .inr ⟨g,cap,cur,e,Nat.le_trans hb hg,h3⟩
theorem OwnsS.low {α:Type} [RepS α] {F:Nat→Prop} {w:World} {base base':Nat} {T:TypeId} {v:Value} {xs:List α} (h:OwnsS F w base T v xs) (hb:base'≤base):OwnsS F w base' T v xs:=by
 obtain ⟨A,B,C⟩:=h;exact ⟨A,ownsRow_low B hb,C⟩
theorem below_own {B:Nat} {a w w':World} {v:Value} (h:Below B a w) (hg:w.grownBy w' v.ownBlock) (hB:B≤w.heap.size) (hv:∀ k,v.ownBlock=some k→B≤k):Below B a w':=h.grown hg hB hv
def foldI (v n:Int):Int:=if n≤1 then 0 else if v.tmod n<0 then v.tmod n+n else v.tmod n
theorem foldI_range {v n:Int} (h:1<n):0≤foldI v n∧foldI v n<n:=by
 unfold foldI;rw [if_neg (by omega)];have A:=Int.tmod_lt_of_pos v (show 0<n by omega);have B : -n<v.tmod n:=by
  have:=Int.lt_tmod_of_pos v (show 0<n by omega);exact this
 split <;> omega
def TapeAt (w:World) (B b:Nat) (xs:List Int) (k:Nat):Prop:=∃ A c,w.cell? ⟨b,0,none⟩=some (.slice A xs.length c)∧w.cell? ⟨b,1,none⟩=some (.int .i64 k)∧
 (∀ j,w.frozen? ⟨b,j,none⟩=false)∧Sl w B A c xs∧B≤b∧b<w.heap.size
def tapeI (xs:List Int) (k:Nat):Int:=match xs[k]? with
 | some v=>v
 | none=>((k:Int) * 7).tmod 11

theorem Fold_any (v n:Int) (w:World) (hv:okI v) (hn:okI n):Calls Tryz.prog 33 #[.int .i64 v,.int .i64 n] w fun e w'=>e=.returned (.int .i64 (foldI v n))∧w=w':=by
 unfold okI at hv hn;by_cases h1:n≤1
 ·
  go_enter Tryz.func33,Tryz.ntmps33
  go_wp2;go_ret;exact ⟨ret_int (by rw [foldI,if_pos h1]),rfl⟩
 have F:¬ n=0:=by omega
 have D:=Int.tmod_lt_of_pos v (show 0<n by omega);have C:=Int.lt_tmod_of_pos v (show 0<n by omega);have E:¬ n = -1:=by omega
 have B:foldI v n=if v.tmod n<0 then v.tmod n+n else v.tmod n:=by rw [foldI,if_neg h1]
 have A:=Lh_ B;clear B;by_cases h3:v.tmod n<0
 ·
  go_enter Tryz.func33,Tryz.ntmps33
  go_wp2;go_ret;exact ⟨ret_int (by rw [A.out,if_pos h3]),rfl⟩
 go_enter Tryz.func33,Tryz.ntmps33;go_wp2;go_ret;exact ⟨ret_int (by rw [A.out,if_neg (by omega)]),rfl⟩

theorem set_at (w:World) (a:Addr) (v:Value) (h:(w.cell? a).isSome):(w.setCell a v).cell? a=some v:=World.cell?_setCell_same' w a v h
theorem tape_next {w:World} {B b c k:Nat} {A:Option Addr} {xs:List Int} (nq:Nat) (h0:w.cell? ⟨b,0,none⟩=some (.slice A xs.length c)) (h1:w.cell? ⟨b,1,none⟩=some (.int .i64 k))
  (hfr:∀ j,w.frozen? ⟨b,j,none⟩=false) (hsl:Sl w B A c xs) (hB:B≤b) (hlt:b<w.heap.size):TapeAt ((w.setCell ⟨b,1,none⟩ (.int .i64 ((k:Int)+1))).drewN nq) B b xs (k+1):=by
 have C:Below B w ((w.setCell ⟨b,1,none⟩ (.int .i64 ((k:Int)+1))).drewN nq):=below_drewN ((Below.refl _ _).setCell hB _) nq;refine ⟨A,c,?_,?_,fun j=>?_,hsl.keep C,hB,by simpa using hlt⟩
 · exact (World.cell?_setCell_other w ⟨b,1,none⟩ ⟨b,0,none⟩ _ (fun e=>by injection e with _ e;cases e)).trans h0
 · exact (set_at w _ _ (by rw [h1];rfl)).trans (by simp)
 exact (World.frozen?_setCell w _ _ _).trans (hfr j)
theorem grown_next {w:World} {b:Nat} {v:Value} (nq:Nat) (_hlt:b<w.heap.size):w.grownBy ((w.setCell ⟨b,1,none⟩ v).drewN nq) (some b):=by
 refine ⟨rfl,rfl,rfl,by simp,fun k hk hne=>?_⟩;have hne':¬ k=b:=fun e=>hne (by rw [e])
 exact Below.heap_setCell _ _ _ _ (by show ¬ _ ;simp;omega)
theorem tape_step {w:World} {B b c k:Nat} {A:Option Addr} {xs:List Int} (nq:Nat) (h0:w.cell? ⟨b,0,none⟩=some (.slice A xs.length c)) (h1:w.cell? ⟨b,1,none⟩=some (.int .i64 k))
  (hfr:∀ j,w.frozen? ⟨b,j,none⟩=false) (hsl:Sl w B A c xs) (hB:B≤b) (hlt:b<w.heap.size):TapeAt ((w.setCell ⟨b,1,none⟩ (.int .i64 ((k:Int)+1))).drewN nq) B b xs (k+1)∧w.grownBy ((w.setCell ⟨b,1,none⟩ (.int .i64 ((k:Int)+1))).drewN nq) (some b) :=
 ⟨tape_next nq h0 h1 hfr hsl hB hlt,grown_next nq hlt⟩
def NextPost (xs:List Int) (k:Nat) (B b:Nat) (n:Int) (w:World) (e:Ending) (w':World):Prop:=e=.returned (.int .i64 (foldI (tapeI xs k) n))∧TapeAt w' B b xs (k+1)∧w.grownBy w' (some b)
set_option maxRecDepth 10000 in
theorem Next_any (xs:List Int) (k B b:Nat) (n:Int) (w:World) (hn:okI n) (hk:k≤2 ^ 40) (ht:TapeAt w B b xs k):Calls Tryz.prog 12 #[.pointer (some ⟨b,0,none⟩),.int .i64 n] w (NextPost xs k B b n w):=by
 obtain ⟨A,c,L,M,G,C,N,H⟩:=ht;have R:=C.1;have K:=C.2.1;unfold maxLen at K;have D:=Lh_ C;clear C;by_cases hin:k<xs.length
 ·
  obtain ⟨T,U,rfl,P,O,Q⟩:=D.out.int hin
  have F:tapeI xs k=xs[k]:=by unfold tapeI;rw [List.getElem?_eq_getElem hin]
  obtain ⟨v,hvv⟩:∃ v,xs[k]=v:=⟨_,rfl⟩;rw [hvv] at O Q F;have I:=Lh_ F;clear F hvv;have S:(k:Int)<(xs.length:Int):=by omega
  have E:okI v:=by unfold okI;omega
  go_enter Tryz.func12,Tryz.ntmps12;go_wp2_with fail;go_quiet (fail)
  go_wp2_with fail;go_quiet (fail)
  go_wp2_with fail;refine (Fold_any v n _ E hn).mono ?_;rintro e w' ⟨rfl,rfl⟩;obtain ⟨z,hz⟩:∃ z,foldI v n=z:=⟨_,rfl⟩;rw [hz];have J:=Lh_ hz;clear hz;go_wp2;go_ret;exact ⟨ret_int (by rw [I.out,J.out]),tape_step _ L M G D.out N H⟩
 have F:tapeI xs k=((k:Int) * 7) % 11:=by
  unfold tapeI;rw [List.getElem?_eq_none (by omega)];show ((k:Int) * 7).tmod 11=_
  rw [Int.tmod_eq_emod_of_nonneg (by omega)]
 have I:=Lh_ F;clear F;have S:¬ (k:Int)<(xs.length:Int):=by omega
 have E:okI (((k:Int) * 7) % 11):=by unfold okI;omega
 go_enter Tryz.func12,Tryz.ntmps12;go_wp2_with fail;go_quiet (fail)
 go_wp2_with fail;refine (Fold_any _ n _ E hn).mono ?_;rintro e w' ⟨rfl,rfl⟩;obtain ⟨z,hz⟩:∃ z,foldI (((k:Int) * 7) % 11) n=z:=⟨_,rfl⟩;rw [hz];have J:=Lh_ hz;clear hz;go_wp2;go_ret;exact ⟨ret_int (by rw [I.out,J.out]),tape_step _ L M G D.out N H⟩

def OnePost (xs:List Int) (k B b:Nat) (ys:List ByteArray) (w:World) (e:Ending) (w':World):Prop:=e=.returned (.string (ys.getD (foldI (tapeI xs k) ys.length).toNat ⟨#[]⟩))∧TapeAt w' B b xs (k+1)∧w.grownBy w' (some b)
set_option maxRecDepth 10000 in
theorem One_any (xs:List Int) (k B b:Nat) (ys:List ByteArray) (b2 o2 c2:Nat) (w:World) (hk:k≤2 ^ 40) (ht:TapeAt w B b xs k) (h0:1<ys.length) (hy:ys.length≤100) (hc:ys.length≤c2) (hc2:c2≤maxLen) (hne:¬ b2=b)
  (hcell:∀ (i:Nat) y,ys[i]? = some y→w.cell? ⟨b2,o2+i,none⟩=some (.string y)) :
  Calls Tryz.prog 13 #[.pointer (some ⟨b,0,none⟩),.slice (some ⟨b2,o2,none⟩) ys.length c2] w (OnePost xs k B b ys w):=by
 have L:=@foldI_range (tapeI xs k) ys.length (by omega);have P:((ys.length:Int) == 0)=false:=by simp;rintro rfl;simp at h0
 have A:=Next_any xs k B b ys.length w (by unfold okI;omega) hk ht;have E:=Lh_ A;clear A ht;have F:=Lh_ hcell;clear hcell;unfold maxLen at hc2;go_enter Tryz.func13,Tryz.ntmps13;go_wp2_with fail;refine E.out.mono ?_;rintro e w1 ⟨rfl,D,I⟩;obtain ⟨m,J⟩:=Int.eq_ofNat_of_zero_le L.1;have K:m<ys.length:=by omega
 have C:ys[m]? = some ys[m]:=List.getElem?_eq_getElem K;have G:ys.getD (foldI (tapeI xs k) ys.length).toNat ⟨#[]⟩=ys[m]:=by rw [J,List.getD_eq_getElem?_getD,Int.toNat_natCast,C];rfl
 have H:=I.cell (F.out m ys[m] C) (fun e=>hne (Option.some.inj e));rw [J] at L ⊢;obtain ⟨y,hyy⟩:∃ y,ys[m]=y:=⟨_,rfl⟩;rw [hyy] at H G;have M:=Lh_ G;clear G C hyy J;have O:=Lh_ D;have N:=Lh_ I;clear D I;have Q:(m:Int)<(ys.length:Int):=by omega
 go_wp2;go_ret;exact ⟨ret_str (by rw [M.out]),O.out,N.out⟩
theorem TapeAt.kept {w w':World} {B b k:Nat} {xs:List Int} {row:Option Nat} (h:TapeAt w B b xs k) (hg:w.grownBy w' row) (hne:some b≠row) (hB:∀ g,row=some g→B≤g):TapeAt w' B b xs k:=by
 obtain ⟨A,c,H,I,J,G,D,C⟩:=h;have F:=hg.block b C hne;have E:Below B w w':=(Below.refl B w).grown hg (by omega) hB;exact ⟨A,c,(cell_heap F 0).trans H,(cell_heap F 1).trans I,fun j=>(frozen_heap F j).trans (J j),G.keep E,D,Nat.lt_of_lt_of_le C hg.size⟩
theorem TapeAt.set_ {w:World} {B b k g j:Nat} {xs:List Int} (h:TapeAt w B b xs k) (hne:g≠b) (hB:B≤g) (v:Value):TapeAt (w.setCell ⟨g,j,none⟩ v) B b xs k:=by
 obtain ⟨A,c,F,G,H,E,C,D⟩:=h;exact ⟨A,c,(cell_set_far w ⟨g,j,none⟩ v b 0 hne).trans F,(cell_set_far w ⟨g,j,none⟩ v b 1 hne).trans G,fun i=>(World.frozen?_setCell w _ _ _).trans (H i),E.keep ((Below.refl _ _).setCell (by exact hB) _),C,by simpa using D⟩
theorem foldI_pos {v n:Int} (h:1≤n):0≤foldI v n∧foldI v n<n:=by
 by_cases h1:1<n
 · exact foldI_range h1
 unfold foldI;rw [if_pos (by omega)];omega
instance:RepS Int where
 rdS _ _ n cs:=cs=[.int .i64 n]∧-9223372036854775808≤n∧n≤9223372036854775807
 pos:=by show 0<1;omega
 lenS h:=by rw [h.1];rfl
 one h u hu:=by rw [h.1] at hu;simp at hu;subst hu;rfl
 mono _ _ h:=h
 rd_iff:=Iff.rfl
section
open Go.ChangeShapes Go.WideShapes Go.ChangeAt

theorem own:ownKnob Tryz.prog.godebug=none:=by kernel_rfl

section
variable {H:Type} {enc:TypeId × Value→H} {P:Program}
theorem post_of_below {f:Func} {s:ChangeSpec} {apart fresh handsOn again:Bool} {W W':World} {args:Array Value} {v:Value} {ds gs:List (DataW H)} {before pa pv:List MemPlace}
  (hW:DataW.Whole enc P f.params.toList s.vars apart W args.toList ds gs before)
  (hres:∀ (b:Nat) (sp:Nat→Bool) (hd:Bool),DataW.TrodAll enc P W' b sp hd f.resultTypes.toList (v.resultList f.resultTypes.size) (s.fn H (ds ++ gs)).results [])
  (hargs:∀ sp:Nat→Bool,(∀ p ∈ before,sp p.block=true)→DataW.TrodAll enc P W' 0 sp true f.params.toList args.toList (s.fn H (ds ++ gs)).args pa)
  (hvars:∀ sp:Nat→Bool,(∀ p ∈ before,sp p.block=true)→DataW.TrodVars enc P W' sp s.vars (s.fn H (ds ++ gs)).vars pv)
  (hps:before=pa ++ pv) (hb:Below W.heap.size W W')
  (hok:∀ (j:Nat) (t:TypeId) (r:Value),f.resultTypes[j]? = some t→(v.resultList f.resultTypes.size)[j]? = some r→Value.okWide P W' .any 0 t r) :
  s.post enc P f apart fresh handsOn again W args v W':=by
 have hlt:∀ p ∈ before,p.block<W.heap.size:=fun p hp=>hW.lt p hp
 have hold:∀ p ∈ before,(fun b=>decide (b<W.heap.size)) p.block=true:=fun p hp=>by simpa using hlt p hp
 refine ⟨ds,gs,before,[],pa,pv,hW,hres _ _ _,hargs _ hold,hvars _ hold,World.keptBut_mono (fun p hp=>⟨hp,?_⟩) (hb.frame (· ∈ before)),fun _=>?_⟩
 ·
  rw [hps,List.mem_append] at hp
  exact Or.inr hp
 ·
  obtain ⟨_,_,_,_,_,hz,hn⟩:=hW
  refine ⟨hok,_,_,([] ++ pa) ++ pv,⟨[] ++ pa,pv,trodAll_append (hargs _ (fun _ _=>rfl)) (hres _ _ _),hvars _ (fun _ _=>rfl),rfl,?_,?_⟩,?_⟩
  ·
   intro b off hp
   have hin:MemPlace.cell b off ∈ before:=by rw [hps];simpa using hp
   rw [hb.frozen (hlt _ hin)];exact hz b off hin
  ·
   intro ha
   have:=hn ha;rw [hps] at this;simpa using this
  ·
   intro p hp _
   rw [hps];simpa using hp
theorem witness_row_shaped {C:Checked} {os:Os} {f:FuncId} {fn:Func} {s:OpenSpec} {conds:List PathCond} {apart:Bool} {laid:List (String × DataW Unit)} (modest:Bool) (w0:World) (args:Array Value) (hos:w0.os=os)
  (hsh:(w0.forCall (fun _ _=>0) ⟨#[],args,[]⟩).Shaped C.prog)
  (hok:Input.okWideB C.prog (w0.forCall (fun _ _=>0) ⟨#[],args,[]⟩) f ⟨#[],args,[]⟩=true)
  (hrow:s.preRow enc C.prog fn conds apart laid (w0.forCall (fun _ _=>0) ⟨#[],args,[]⟩).memory args) :
  ∃ (w:World) (tape:Tape) (i:Input),w.os=os∧(w.forCall tape i).Shaped C.prog∧i.vars=[]∧Input.okWide C.prog (w.forCall tape i) .any w.heap.size f i∧
   s.preRow enc C.prog fn conds apart laid (w.forCall tape i).memory i.args∧({ modest:=modest }:Assume).holds C.prog (lone (Frame.enter C.prog f i.args .normal) [] (w.forCall tape i)) :=
 ⟨w0,fun _ _=>0,⟨#[],args,[]⟩,hos,hsh,rfl,(Input.okWide_of_okWideB hok).2,hrow,by
  simp only [Assume.holds];exact ⟨by simp,by simp,fun _=>Modest.zero,by simp,by simp⟩⟩
end

section
variable {H:Type} {enc:TypeId × Value→H} {P:Program}
theorem trodAll_stays (hl:laidOutB P=true) {W W':World} {sp':Nat→Bool}:∀ {ts:List TypeId} {vs:List Value} {ds:List (DataW H)} {ps:List MemPlace},
  (ts.all fun t=>P.readableRec t && decide (t<P.types.size))=true→DataW.TrodAll enc P W 0 (fun _=>true) true ts vs ds ps→(∀ p ∈ ps,W.sameAt W' p)→(∀ p ∈ ps,sp' p.block=true)→DataW.TrodAll enc P W' 0 sp' true ts vs ds ps
 | [],_,_,_,_,h,_,_=>by
  obtain ⟨rfl,rfl,rfl⟩:=trodAll_nil h;exact trodAll_mk0
 | t :: ts,_,_,_,hr,h,hs,hsp=>by
  obtain ⟨v,vs,d,ds,p,q,rfl,rfl,rfl,h0,h1⟩:=trodAll_cons h;simp only [List.all_cons,Bool.and_eq_true,decide_eq_true_eq] at hr;exact trodAll_cons_mk (WideElems.Trod_stays hl hr.1.1 hr.1.2 h0 (fun x hx=>hs x (List.mem_append_left _ hx)) (fun x hx=>hsp x (List.mem_append_left _ hx)))
   (trodAll_stays hl (by simpa using hr.2) h1 (fun x hx=>hs x (List.mem_append_right _ hx)) (fun x hx=>hsp x (List.mem_append_right _ hx)))
theorem trodAll_length {W:World} {sp:Nat→Bool}:∀ {ts:List TypeId} {vs:List Value} {ds:List (DataW H)} {ps:List MemPlace},DataW.TrodAll enc P W 0 sp true ts vs ds ps→ds.length=ts.length
 | [],_,_,_,h=>by obtain ⟨_,rfl,_⟩:=trodAll_nil h;rfl
 | t :: ts,_,_,_,h=>by
  obtain ⟨v,vs,d,ds,p,q,rfl,rfl,rfl,_,h1⟩:=trodAll_cons h;have:=trodAll_length h1;simpa using this
theorem open_strs {W:World} {base:Nat} {t e:TypeId} {v:Value} {d:DataW H} {ps:List MemPlace} (ht:P.underlying t=some (.slice e)) (he:P.underlying e=some .string) (hc:P.cellsOf e=1)
  (hok:Value.okWide P W .any base t v) (h:DataW.Trod enc P W 0 (fun _=>true) true t v d ps) (hlt:∀ p ∈ ps,p.block<W.heap.size) :
  ∃ A c,∃ xs:List ByteArray,v=.slice A xs.length c∧Cold.Sl W W.heap.size A c xs:=by
 obtain ⟨a0,len,cap,rfl⟩:=okWide_slice ht hok;obtain ⟨fuel,hf⟩:=h;rcases open_strings ht he hc hf with ⟨hcs,hx⟩ | ⟨a,len',cap',ss,hcs,_,hl,hm,hlen,hx,hcell,hws⟩
 ·
  simp [Value.cells] at hcs
  obtain ⟨rfl,rfl,rfl⟩:=hcs;exact ⟨none,0,[],rfl,Cold.Sl.nil_⟩
 ·
  simp [Value.cells] at hcs
  obtain ⟨rfl,rfl,rfl⟩:=hcs;simp only [if_true] at hlen;simp only [Prod.mk.injEq] at hx;obtain ⟨_,rfl⟩:=hx;have htl:(ss.take len).length=len:=by rw [List.length_take];omega
  refine ⟨some a,cap,ss.take len,by rw [htl],⟨by rw [htl];exact hl,hm,fun h0=>?_⟩⟩;rw [htl] at h0;have hb:a.block<W.heap.size:=hlt (.cell a.block (a.off+0)) (MemPlace.mem_row.2 ⟨0,by omega,rfl⟩);have h00:=hcell 0 (by omega);have hspot:a.spot=none:=by
   have e:a.add 0=a:=by simp [Addr.add]
   rw [e] at h00;cases hs:a.spot with
   | none=>rfl
   | some z=>simp [World.cell?,hs] at h00;split at h00 <;> simp_all
  obtain ⟨b,o,sp⟩:=a;simp only at hspot hb;subst hspot;refine ⟨b,o,rfl,hb,fun i x hx=>?_⟩;rw [List.getElem?_take] at hx;split at hx
  case isFalse=>cases hx
  have hi:i<ss.length:=(List.getElem?_eq_some_iff.1 hx).1;refine ⟨[.string x],⟨rfl,hws x (List.mem_of_getElem? hx)⟩,fun j u hu=>?_⟩;have hj:j=0:=by
   rcases j with _ | j
   · rfl
   · simp at hu
  subst hj;simp at hu
  subst hu;have h1:=hcell i hi;rw [Cold.add_mk] at h1;have h2:ss.getD i ByteArray.empty=x:=by simp [List.getD,hx]
  rw [h2] at h1;simpa [Cold.Rep.size] using h1
end

theorem gES : Tryz.prog.globalNamed "strconv.ErrSyntax" = some 2 := by kernel_rfl
theorem gESType:(Tryz.prog.globals[2]?).map (·.type)=some 114:=by kernel_rfl
theorem gER : Tryz.prog.globalNamed "strconv.ErrRange" = some 3 := by kernel_rfl
theorem gERType:(Tryz.prog.globals[3]?).map (·.type)=some 114:=by kernel_rfl
theorem rowErr (u : TypeId) (h : Tryz.prog.typeName? 3 u = some "*errors.errorString") : u = 224 :=
 typeName_ptr_named (nm := "errors.errorString") (by rw [show "*" ++ "errors.errorString" = "*errors.errorString" by decide]; kernel_rfl) (by kernel_rfl) (by decide) u (by rw [show "*" ++ "errors.errorString" = "*errors.errorString" by decide]; exact h)
theorem laidOut:laidOutB Tryz.prog=true:=by kernel_rfl

set_option maxRecDepth 100000 in
theorem law_lifted {f:FuncId} {fn:Func} {s:ChangeSpec} {laid:List (String × DataW Unit)} (os:Os) (started:os.Started) (H:Type) (enc:TypeId × Value→H) (F:Stop.Interp)
  (noInit:Tryz.prog.inits.idxOf? f=none) (hfn:Tryz.prog.funcs[f]? = some fn) (args0:Array Value)
  (hsh0:((World.laidAll Tryz.prog os laid).forCall (fun _ _=>0) ⟨#[],args0,[]⟩).Shaped Tryz.prog)
  (hok0:Input.okWideB Tryz.prog ((World.laidAll Tryz.prog os laid).forCall (fun _ _=>0) ⟨#[],args0,[]⟩) f ⟨#[],args0,[]⟩=true)
  (hrow0:(OpenSpec.ofChange s).preRow enc Tryz.prog fn [] false laid ((World.laidAll Tryz.prog os laid).forCall (fun _ _=>0) ⟨#[],args0,[]⟩).memory args0)
  (hvars:s.vars=[]) (hres:fn.resultTypes=#[4])
  (hs:∀ ds:List (DataW H),ds.length=fn.params.toList.length→s.fn H (ds ++ []) = { results:=[.lit (.bool true)],args:=ds })
  (hr:(fn.params.toList.all fun t=>Tryz.prog.readableRec t && decide (t<Tryz.prog.types.size))=true)
  (law:∀ (W:World) (base:Nat) (args:Array Value) (ds:List (DataW H)) (ps:List MemPlace),
   (∀ (j:Nat) t v,fn.params[j]? = some t→args[j]? = some v→Value.okWide Tryz.prog W .any base t v)→
   DataW.TrodAll enc Tryz.prog W 0 (fun _=>true) true fn.params.toList args.toList ds ps→(∀ p ∈ ps,p.block<W.heap.size)→
   (DataW.weightsEach Tryz.checked.prog (fn.params.toList ++ (OpenSpec.ofChange s).bare.plain.varTypes Tryz.checked.prog) (ds ++ [])).all (·≤reachBytes)=true→W.ShapedOpen Tryz.checked.prog→laidMetH Tryz.prog laid W→
   Calls Tryz.prog f args W fun e W'=>e=.returned (.bool true)∧Below W.heap.size W W') :
  ReturnsInHanded {} Tryz.checked os f .any ((OpenSpec.ofChange s).preRow enc Tryz.prog fn [] false laid) (((OpenSpec.ofChange s).at F).post enc Tryz.prog fn false true false false):=by
 refine returnsInHanded_of_row (C:=Tryz.checked) (s:=OpenSpec.ofChange s) own started noInit hfn
  (witness_row_shaped (enc:=enc) (C:=Tryz.checked) false (World.laidAll Tryz.prog os laid) args0 (World.laidAll_os _ _ _) hsh0 hok0 hrow0) ?_
 intro W base args ds gs before hval hW _ _ hz hlaid hsh _;have hlt:∀ p ∈ before,p.block<W.heap.size:=fun p hp=>hW.lt p hp
 have hW':=hW;obtain ⟨p,q,hA0,hV,rfl,hfz,hnd⟩:=hW;have hA:DataW.TrodAll enc Tryz.prog W 0 (fun _=>true) true fn.params.toList args.toList ds p:=hA0;have hv:(OpenSpec.ofChange s).vars=[]:=hvars;rw [hv] at hV;obtain ⟨rfl,rfl⟩:=trodVars_none hV;simp only [List.append_nil] at hW' hlt;have hlen:ds.length=fn.params.toList.length:=trodAll_length hA;refine (law W base args ds p hval hA hlt hz hsh hlaid).mono fun e W' ⟨he,hb⟩=>?_
 subst he;have e1:=hs ds hlen;have hrt:fn.resultTypes.toList=[4]:=by rw [hres]
 have hrl:(Value.bool true).resultList fn.resultTypes.size=[.bool true]:=by rw [hres];rfl
 refine ⟨_,rfl,post_of_below (s:=s) (pa:=p) (pv:=[]) hW' (fun _ _ _=>?_) (fun sp hsp=>?_) (fun _ _=>?_) (by simp) hb ?_⟩
 · rw [hrt,hrl,e1];exact trodAll_mk1 (shut_bool Tryz.underlying4 _)
 · rw [e1];exact trodAll_stays laidOut hr hA (fun x hx=>hb.same (hlt x hx)) (fun x hx=>hsp x hx)
 · rw [e1,hvars];rfl
 ·
  intro j t r hj hr'
  rw [hres] at hj;rw [hrl] at hr';rcases j with _ | j
  ·
   simp at hj hr'
   subst hj;subst hr';exact okWide_bool_mk Tryz.underlying4 _
  · simp at hr'

end
section
open Go.ChangeShapes Go.WideShapes Go.ChangeAt
section
variable {H:Type} {enc:TypeId × Value→H} {P:Program}
theorem open_nums {W:World} {base:Nat} {t e:TypeId} {v:Value} {d:DataW H} {ps:List MemPlace} (ht:P.underlying t=some (.slice e)) (he:P.underlying e=some (.int .i64)) (hc:P.cellsOf e=1)
  (hok:Value.okWide P W .any base t v) (h:DataW.Trod enc P W 0 (fun _=>true) true t v d ps) (hlt:∀ p ∈ ps,p.block<W.heap.size) :
  ∃ A c,∃ xs:List Int,v=.slice A xs.length c∧Cold.Sl W W.heap.size A c xs:=by
 obtain ⟨a0,len,cap,rfl⟩:=okWide_slice ht hok;obtain ⟨fuel,hf⟩:=h;rcases open_ints ht he hc hf with ⟨hcs,hx⟩ | ⟨a,len',cap',ss,hcs,_,hl,hm,hlen,hx,hcell,hws⟩
 ·
  simp [Value.cells] at hcs
  obtain ⟨rfl,rfl,rfl⟩:=hcs;exact ⟨none,0,[],rfl,Cold.Sl.nil_⟩
 ·
  simp [Value.cells] at hcs
  obtain ⟨rfl,rfl,rfl⟩:=hcs;simp only [if_true] at hlen;simp only [Prod.mk.injEq] at hx;obtain ⟨_,rfl⟩:=hx;have htl:(ss.take len).length=len:=by rw [List.length_take];omega
  refine ⟨some a,cap,ss.take len,by rw [htl],⟨by rw [htl];exact hl,hm,fun h0=>?_⟩⟩;rw [htl] at h0;have hb:a.block<W.heap.size:=hlt (.cell a.block (a.off+0)) (MemPlace.mem_row.2 ⟨0,by omega,rfl⟩);have h00:=hcell 0 (by omega);have hspot:a.spot=none:=by
   have e:a.add 0=a:=by simp [Addr.add]
   rw [e] at h00;cases hs:a.spot with
   | none=>rfl
   | some z=>simp [World.cell?,hs] at h00;split at h00 <;> simp_all
  obtain ⟨b,o,sp⟩:=a;simp only at hspot hb;subst hspot;refine ⟨b,o,rfl,hb,fun i x hx=>?_⟩;rw [List.getElem?_take] at hx;split at hx
  case isFalse=>cases hx
  have hi:i<ss.length:=(List.getElem?_eq_some_iff.1 hx).1;have hwf:=hws x (List.mem_of_getElem? hx);simp only [Lit.wf,Bool.and_eq_true,decide_eq_true_eq] at hwf;refine ⟨[.int .i64 x],⟨rfl,hwf.1,hwf.2⟩,fun j u hu=>?_⟩;have hj:j=0:=by
   rcases j with _ | j
   · rfl
   · simp at hu
  subst hj;simp at hu
  subst hu;have h1:=hcell i hi;rw [Cold.add_mk] at h1;have h2:ss.getD i 0=x:=by simp [List.getD,hx]
  rw [h2] at h1;simpa [Cold.Rep.size] using h1
end
end

theorem SameTexts_any (A B:Option Addr) (c d:Nat) (xs ys:List ByteArray) (w:World) (b1 b2:Nat) (hx:Sl w b1 A c xs) (hy:Sl w b2 B d ys) :
  Calls Tryz.prog 38 #[.slice A xs.length c,.slice B ys.length d] w fun e w'=>e=.returned (.bool (decide (xs=ys)))∧∃ n,w'=w.drewN n:=by
 have N:=hx.1;have D:=hx.2.1;have O:=hy.1;have E:=hy.2.1;unfold maxLen at D E;by_cases hl:xs.length=ys.length
 ·
  have G:=Lh_ hl
  go_enter Tryz.func38,Tryz.ntmps38;go_wp2;clear hl;go_loopw [5] (fun i wr=>∃ k n:Nat,k≤ys.length∧i=.int .i64 k∧Hid (xs.take k=ys.take k)∧wr=w.drewN n) (fun i _=>ys.length - (intOf i).toNat)
  case atStart=>exact ⟨0,0,Nat.zero_le _,rfl,rfl,rfl⟩
  obtain ⟨k,n,P,rfl,H,rfl⟩:=hrel;by_cases hlt:k<ys.length
  ·
   have C:k<xs.length:=by have:=G.out;omega
   obtain ⟨J,S,rfl,_,L,_⟩:=hx.str C;obtain ⟨K,T,rfl,_,M,_⟩:=hy.str hlt;have Q:(k:Int)<(xs.length:Int):=by omega
   have R:(k:Int)<(ys.length:Int):=by omega
   go_wp2;go_quiet (fail)
   go_wp2
   ·
    have F:=ba_ne (by assumption)
    go_ret;exact ⟨ret_bool (by simp;rintro rfl;exact F rfl),_,World.drewN_drewN _ _ _⟩
   have I:=ba_eq (by assumption);go_roundw
   case rel=>exact ⟨k+1,_,by omega,by go_num,take_succ_iff C hlt H.out I,rfl⟩
   simp [intOf];omega
  have C:¬ k<xs.length:=by have:=G.out;omega
  go_wp2;go_ret;exact ⟨ret_bool (by simp [take_all H.out (by omega) (by omega)]),_,rfl⟩
 go_enter Tryz.func38,Tryz.ntmps38;go_wp2;go_ret;exact ⟨ret_bool (by simp;rintro rfl;exact hl rfl),0,rfl⟩

theorem info_strH:(Tryz.prog.info? 9).map (fun i=>(i.zero,i.size,i.bytes))=some (some (.string ByteArray.empty),1,16):=by kernel_rfl

def CleanPost (s:ByteArray) (w:World) (e:Ending) (w':World):Prop:=Below w.heap.size w w'∧e=.returned (match cleanOf s with | some t=>.tuple #[.string t,.bool true] | none=>.tuple #[.string ⟨#[]⟩,.bool false])

set_option maxRecDepth 100000 in
theorem Clean_any (s:ByteArray) (w:World) (hs:s.size≤4096) (hok:Ok w):Calls Tryz.prog 18 #[.string s] w (CleanPost s w):=by
 obtain ⟨hz,hi⟩:=zero_of_info info_set;rw [← Lib.setCells_nil] at hz;have HI:=Lh_ hi;clear hi;have B0:=Lh_ hok;clear hok;obtain ⟨i0,K0,O0,P0,Q0⟩:=info_parts info_strH;have R0:=Lh_ K0;clear K0;have V0:=Lh_ O0;clear O0;have W0:=Lh_ P0;clear P0;have X0:=Lh_ Q0;clear Q0;go_enter Tryz.func18,Tryz.ntmps18;go_wp2_with fail;refine (parts_any _).mono ?_;rintro e w1 ⟨rfl,S⟩;go_wp2_with fail;refine (plus_any _ _ _ (by decide)).mono ?_;rintro e w2 ⟨rfl,F0⟩;have W:Blk (w2.alloc (Obj.cells (Lib.setCells []) 76)) w2.heap.size 76 (Lib.setCells []):=Blk.new _ _ _;go_wp2_with (first
  | (with_reducible refine at_store 4 13 ?_;go_must (refine wpList_store_blk rfl 76 _ _ rfl w2.heap.size rfl (Lib.setCells (partL ++ [47])) rfl 76 _ W (by rw [Lib.setCells_size];exact HI.out) (by rw [Lib.setCells_size,Lib.setCells_size]) (Lib.setCells_one _) ?_))
  | (with_reducible refine at_dst 15 ?_;go_must (refine wpList_conv_bytes rfl 9 81 5 _ rfl s rfl Tryz.underlying9 Tryz.underlying81 Tryz.underlying5 ?_);intro cap w3 hcap hrow C G))
 have H:=S.trans (F0.mono S.size);have X:((w2.alloc (Obj.cells (Lib.setCells []) 76)).setRow w2.heap.size (Lib.setCells (partL ++ [47]))).heap.size=w2.heap.size+1:=by simp
 have L0:=(W.setRow_ (Lib.setCells (partL ++ [47]))).below G (by rw [X];omega);have D:Below w.heap.size w w3:=by
  have M:Below w.heap.size w ((w2.alloc (Obj.cells (Lib.setCells []) 76)).setRow w2.heap.size (Lib.setCells (partL ++ [47]))):=below_setRow (H.alloc H.size _) H.size _;exact M.trans (G.mono M.size)
 have hg:w.heap.size≤w2.heap.size:=H.size;rw [X] at hrow C;clear S F0 G H W X;have B:=Lh_ hrow;clear hrow;have Q:=Lh_ L0;clear L0;generalize w2.heap.size=g at *;go_loopw [18] (fun i wr=>∃ k:Nat,k≤s.size∧i=.int .i64 k∧Hid (ByteRow wr (g+1) (cleanK s.data.toList k))∧Hid (Blk wr g 76 (Lib.setCells (partL ++ [47])))∧g+1<wr.heap.size∧Below w.heap.size w wr) (fun i _=>s.size - (intOf i).toNat)
 case atStart=>exact ⟨0,Nat.zero_le _,rfl,by rw [cleanK_zero];exact B,Q,C,D⟩
 clear B Q C D;obtain ⟨k,hk,rfl,B,Q,C,D⟩:=hrel;by_cases hlt:k<s.size
 ·
  obtain ⟨x,hx⟩:∃ x:UInt8,s[k]'hlt=x:=⟨_,rfl⟩
  have Z:s.data.toList[k]? = some x:=by rw [← hx];exact Lib.data_getElem? s k hlt
  have B1:(x.toNat:Int)<256:=by have:=UInt8.toNat_lt x;omega
  have V:=(Q.out.cell x.toNat).trans (Lib.setCells_at _ x);obtain ⟨K1,L1⟩:=B.out k x (cleanK_at Z);have M0:k<(cleanK s.data.toList k).length:=by rw [cleanK_length _ _ (by rw [ba_size];omega),ba_size];exact hlt
  have S0:=Lh_ M0;clear M0;have HX:=Lh_ Z;clear Z hx;have i1:(k:Int)<(s.size:Int):=by omega
  obtain ⟨c,hc⟩:∃ c,(partL ++ [47]).contains x=c:=⟨_,rfl⟩;rw [hc] at V;have HC:=Lh_ hc;clear hc;cases c with
  | true =>
   go_wp2;go_roundw
   case rel=>exact ⟨k+1,by omega,by go_num,by rw [cleanK_same HX.out (cleanP_good HC.out)];exact B,Q,C,D⟩
   simp [intOf];omega
  | false =>
   go_wp2;go_roundw
   case rel =>
    refine ⟨k+1,by omega,by go_num,?_,Q.out.far (by simp) _,by simpa using C,D.setCell (by simp;omega) _⟩;rw [cleanK_succ HX.out,cleanP_bad HC.out];exact B.out.set_ S0.out 95
   simp [intOf];omega
 have N:ByteRow wr (g+1) (s.data.toList.map cleanP):=by
  have:=B.out;rwa [cleanK_all _ (by rw [ba_size];omega)] at this
 have K:=Lh_ N;clear N B Q;go_wp2_with (with_reducible refine at_dst 32 ?_;go_must (refine wpList_conv_string rfl 81 9 5 _ rfl (g+1) cap s.size (s.data.toList.map cleanP) (by rw [List.length_map,ba_size]) rfl K.out Tryz.underlying81 Tryz.underlying5 Tryz.underlying9 ?_));clear C hcap;refine (SplitSlash_any (toB (s.data.toList.map cleanP)) wr (by rw [toB_size,List.length_map,ba_size];omega) (B0.out.next D)).mono ?_;rintro e w5 ⟨A,c,rfl,J,G0⟩;have T:=D.trans (G0.mono D.size);rw [toB_data] at J ⊢;have N0:(piecesL (s.data.toList.map cleanP)).length≤s.size+1:=by
  unfold piecesL;rw [List.length_map];have:=splitOn_count 47 (s.data.toList.map cleanP);rwa [List.length_map,ba_size] at this
 obtain ⟨xs,hxs⟩:∃ xs,piecesL (s.data.toList.map cleanP)=xs:=⟨_,rfl⟩;rw [hxs] at J N0 ⊢;have U0:=Lh_ hxs;clear hxs;have C0:=Lh_ J;clear J K D G0 hg;go_wp2_with fail;go_loopw [8,35] (fun v i wr=>∃ k:Nat,k≤xs.length∧i=.int .i64 k∧wr.ownsRow w5.heap.size 9 1 v ((xs.take k).filter keepB).length (((xs.take k).filter keepB).map Value.string)∧Below w5.heap.size w5 wr) (fun _ i _=>xs.length - (intOf i).toNat)
 case atStart=>exact ⟨0,Nat.zero_le _,rfl,World.ownsRow_nil _ _ _ _,Below.refl _ _⟩
 obtain ⟨k2,M1,rfl,hown,hbr⟩:=hrel;have HOwn:=Lh_ hown;clear hown;by_cases hlt2:k2<xs.length
 ·
  obtain ⟨b3,o3,rfl,G,cx,A1⟩:=C0.out.str hlt2
  have cx':=(hbr.cell (p:=⟨b3,o3+k2,none⟩) G).trans cx;have Y:xs[k2]? = some xs[k2]:=List.getElem?_eq_getElem hlt2;obtain ⟨x,hx⟩:∃ x,xs[k2]=x:=⟨_,rfl⟩;rw [hx] at cx' A1 Y;clear cx;have HX:=Lh_ Y;clear Y hx;have i1:(k2:Int)<(xs.length:Int):=by omega
  have I0:((xs.take k2).filter keepB).length≤k2:=Nat.le_trans (List.length_filter_le _ _) (List.length_take_le _ _);have A0:=Lh_ I0;clear I0;cases hkp:keepB x with
  | true =>
   have M:x.toList.isEmpty=false:=by
    unfold keepB at hkp;simp only [Bool.and_eq_true] at hkp;simpa using hkp.1
   have h2:(x.toList == [46])=false:=by
    unfold keepB at hkp;simp only [Bool.and_eq_true] at hkp;simpa using hkp.2
   have R:=Lh_ hkp;clear hkp;go_wp2_with (at_builtin;go_must (refine wpList_append_own _ rfl _ _ 27 rfl w5.heap.size 9 i0 (.string ByteArray.empty) 1 16 Tryz.underlying27 R0.out V0.out W0.out X0.out rfl (by decide) _ _ _ rfl (HOwn.out.alloc _) ⟨wr.heap.size,0,none⟩ 1 1 [.string x] rfl rfl (cell_one_new _ _ _) (by intro u hu;simp at hu;subst hu;rfl) (by have:=A0.out;unfold maxLen;omega) (by have:=A0.out;omega) (by have:=hbr.size;simp;omega) ?_);intro v' w1 hown' hgrow _);have hbr':Below w5.heap.size w5 w1:=(hbr.alloc hbr.size _).grown hgrow (by have:=hbr.size;simp;omega) (fun g' hg'=>(HOwn.out.lt g' hg').1);have HOwn':=Lh_ hown';clear hown' hgrow cx' hbr;go_wp2;go_roundw
   case rel =>
    refine ⟨k2+1,by omega,by go_num,?_,hbr'⟩;have e:(xs.take (k2+1)).filter keepB=(xs.take k2).filter keepB ++ [x]:=by
     rw [List.take_add_one,HX.out,List.filter_append];simp [R.out]
    rw [e,List.length_append,List.map_append];exact HOwn'.out
   simp [intOf];omega
  | false =>
   have Z0:x.toList=[]∨((x.toList.isEmpty)=false∧(x.toList == [46])=true):=by
    unfold keepB at hkp;cases M:x.toList.isEmpty with
    | true=>left;simpa using M
    | false =>
     right
     rw [M] at hkp;simpa using hkp
   have R:=Lh_ hkp;clear hkp;have I:(xs.take (k2+1)).filter keepB=(xs.take k2).filter keepB:=by
    rw [List.take_add_one,HX.out,List.filter_append];simp [R.out]
   have E:=Lh_ I;clear I;rcases Z0 with M | ⟨M,h2⟩
   ·
    go_wp2
    go_roundw
    case rel=>exact ⟨k2+1,by omega,by go_num,by rw [E.out];exact HOwn.out,hbr⟩
    simp [intOf];omega
   go_wp2;go_roundw
   case rel=>exact ⟨k2+1,by omega,by go_num,by rw [E.out];exact HOwn.out,hbr⟩
   simp [intOf];omega
 have J0:fsOf s=xs.filter keepB:=by rw [fsOf,U0.out]
 have hown:=HOwn.out;rw [List.take_of_length_le (by omega),← J0] at hown;obtain ⟨A2,c2,rfl,P⟩:=Sl.ofOwn hown (fun x hx=>by have:=fsOf_sizes hx;unfold maxLen;omega);have U:=T.trans (hbr.mono T.size);have L:=Lh_ P;clear C0 HOwn hown P J0 hbr T;go_wp2_with fail;refine (JoinSlash_any A2 c2 (fsOf s) wr L.out (by have:=fsOf_join_size s;omega) (by have:=fsOf_length s;omega)).mono ?_;rintro e w6 ⟨rfl,H0⟩;have F:=U.trans (H0.mono U.size);have Y0:=fsOf_join_size s;obtain ⟨j,hj⟩:∃ j,joinB (fsOf s)=j:=⟨_,rfl⟩;rw [hj] at Y0 ⊢;have HJ:=Lh_ hj;clear hj L U H0;go_wp2_with fail;refine (Link_any j w6 (by omega) (B0.out.next F)).mono ?_;rintro e w7 ⟨rfl,E0⟩;have O:=F.trans (E0.mono F.size);cases hl:linkB j with
 | true =>
  have HL:=Lh_ hl;clear hl;go_wp2;go_ret2;exact ⟨O,by rw [cleanOf,HJ.out,HL.out];rfl⟩
 | false =>
  have HL:=Lh_ hl;clear hl;go_wp2;go_ret2;exact ⟨O,by rw [cleanOf,HJ.out,HL.out];rfl⟩
end Go.Cold
