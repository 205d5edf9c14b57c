/-
  The walks of package tree: look and Origin.
-/
import Derived.Test.YtjpoljlgkgmdkaaGreatDoorMG
import Derived.Test.YtjpoljlgkgmdkaaGreatDoorMR
import Derived.Lib.SmallJoins
import Derived.Lib.ItoaLen
set_option linter.unusedSimpArgs false
set_option linter.unusedVariables false

namespace Go.Cold
open Go Go.RowKit Go.Proofs.YtjpoljlgkgmdkaaGreatDoor
open Go.Proofs hiding intOf
def orgM (L:List Dev):Int→Option ByteArray:=L.foldl (fun f d=>updF f d.idx (((f d.par).getD ByteArray.empty ++ ⟨#[47]⟩) ++ d.orig)) (fun _=>none)
def plGo:List Dev→Nat→(Int→Option Int)→(Int→Option Int)
 | [],_,f=>f
 | d :: r,i,f=>plGo r (i+1) (updF f d.idx (i:Int))
def plM (L:List Dev):Int→Option Int:=plGo L 0 (fun _=>none)
theorem plGo_snoc:∀ (l:List Dev) (d:Dev) (i:Nat) (f:Int→Option Int),plGo (l ++ [d]) i f=updF (plGo l i f) d.idx ((i+l.length:Nat):Int)
 | [],d,i,f=>by simp [plGo]
 | x :: l,d,i,f=>by
  rw [List.cons_append,plGo,plGo,plGo_snoc l d (i+1),List.length_cons,show i+1+l.length=i+(l.length+1) by omega]
theorem plM_step {L:List Dev} {k:Nat} {y:Dev} (hk:k<L.length) (hy:L[k]? = some y):plM (L.take (k+1))=updF (plM (L.take k)) y.idx (k:Int):=by
 rw [List.take_add_one,hy];show plM (L.take k ++ [y])=_
 unfold plM;rw [plGo_snoc,Nat.zero_add,List.length_take,Nat.min_eq_left (by omega)]
theorem orgM_step {L:List Dev} {k:Nat} {y:Dev} (hy:L[k]? = some y):orgM (L.take (k+1))=updF (orgM (L.take k)) y.idx (((orgM (L.take k) y.par).getD ByteArray.empty ++ ⟨#[47]⟩) ++ y.orig):=by
 rw [List.take_add_one,hy];show orgM (L.take k ++ [y])=_
 unfold orgM;rw [List.foldl_append];rfl
theorem orgM_fold:∀ (L:List Dev) (f:Int→Option ByteArray) (s:Int→ByteArray) (ins:List Int),(∀ n,(f n).getD ByteArray.empty=s n)→(∀ n,(f n).isSome=ins.contains n)→
  (∀ n,((L.foldl (fun f d=>updF f d.idx (((f d.par).getD ByteArray.empty ++ ⟨#[47]⟩) ++ d.orig)) f) n).getD ByteArray.empty=L.foldl strStep s n)∧
  (∀ n,((L.foldl (fun f d=>updF f d.idx (((f d.par).getD ByteArray.empty ++ ⟨#[47]⟩) ++ d.orig)) f) n).isSome=((idxs L).contains n || ins.contains n))
 | [],f,s,ins,h1,h2=>⟨h1,fun n=>by rw [show (idxs ([]:List Dev)).contains n=false from rfl,Bool.false_or];exact h2 n⟩
 | d :: r,f,s,ins,h1,h2=>by
  have h:=orgM_fold r (updF f d.idx (((f d.par).getD ByteArray.empty ++ ⟨#[47]⟩) ++ d.orig)) (strStep s d) (d.idx :: ins) (fun n=>by
   unfold updF strStep;by_cases hn:n=d.idx
   · rw [if_pos hn,if_pos hn,h1];rfl
   · rw [if_neg hn,if_neg hn,h1]) (fun n=>by
   unfold updF;rw [List.contains_cons];by_cases hn:n=d.idx
   · rw [if_pos hn];simp [hn]
   · rw [if_neg hn,h2];simp [hn])
  refine ⟨h.1,fun n=>?_⟩;rw [List.foldl_cons,h.2 n,List.contains_cons];show _=((d.idx :: idxs r).contains n || _)
  rw [List.contains_cons];cases (n == d.idx) <;> cases (idxs r).contains n <;> simp
theorem orgM_str (L:List Dev) (n:Int):(orgM L n).getD ByteArray.empty=strF L n:=(orgM_fold L (fun _=>none) (fun _=>⟨#[]⟩) [] (fun _=>rfl) (fun _=>rfl)).1 n
theorem orgM_some (L:List Dev) (n:Int):(orgM L n).isSome=(idxs L).contains n:=by
 have h:=(orgM_fold L (fun _=>none) (fun _=>⟨#[]⟩) [] (fun _=>rfl) (fun _=>rfl)).2 n;rw [show ([]:List Int).contains n=false from rfl,Bool.or_false] at h;exact h
theorem str_size_in {m:Nat}:∀ (L:List Dev) (s:Int→ByteArray) (t:Nat),(∀ n,(s n).size≤t)→(∀ d ∈ L,d.orig.size≤m)→∀ n,(L.foldl strStep s n).size≤t+L.length * (m+1)
 | [],s,t,h,_,n=>by simpa using h n
 | d :: r,s,t,h,hm,n=>by
  have h2:=str_size_in r (strStep s d) (t+(m+1)) (fun n=>by
   unfold strStep;have h3:=hm d List.mem_cons_self;split
   ·
    rw [ByteArray.size_append,ByteArray.size_append]
    have h4:=h d.par;have h5:(⟨#[47]⟩:ByteArray).size=1:=rfl;omega
   · have:=h n;omega) (fun x hx=>hm x (List.mem_cons_of_mem _ hx)) n
  rw [List.foldl_cons,List.length_cons,Nat.succ_mul];omega
theorem str_size {L:List Dev} (h:∀ d ∈ L,d.orig.size≤32) (hl:L.length≤256) (n:Int):(strF L n).size≤8448:=by
 have A:=str_size_in L (fun _=>⟨#[]⟩) 0 (fun _=>Nat.le_refl _) h n;have B:=Nat.mul_le_mul_right 33 hl;unfold strF;omega
def LkSt (P:Program) (tI tS:TypeId) (w0:World) (g1 g2 g3 bp bo:Nat) (A:Option Addr) (c:Nat) (L:List Dev) (k:Nat) (w:World):Prop :=
 Below w0.heap.size w0 w∧BoxL w g1 [.slice A L.length c]∧BoxL w g2 [.slice none 0 0,.map none,.map none]∧BoxL w g3 [.slice A L.length c,.map (some bp),.map (some bo)]∧MapV P tI tI w bp k (plM (L.take k))∧MapV P tI tS w bo k (orgM (L.take k))
theorem LkSt.below {P:Program} {tI tS:TypeId} {w0 w w':World} {g1 g2 g3 bp bo c k:Nat} {A:Option Addr} {L:List Dev} (h:LkSt P tI tS w0 g1 g2 g3 bp bo A c L k w) (hb:Below w.heap.size w w'):LkSt P tI tS w0 g1 g2 g3 bp bo A c L k w':=by
 obtain ⟨B,C,D,E,F,G⟩:=h;exact ⟨B.trans (hb.mono B.size),C.kept (grown_none hb) (fun e=>by cases e),D.kept (grown_none hb) (fun e=>by cases e),E.kept (grown_none hb) (fun e=>by cases e),F.next hb,G.next hb⟩
section
variable {α:Type} [El α] {P:Program} {k e t:TypeId} {w w':World} {b n:Nat} {f:Int→Option α}
theorem MapV.update (h:MapV P k e w b n f) (ht:P.underlying t=some (.map k e)) (hk:P.underlying k=some (.int .i64)) (he:P.underlying e=some (El.desc (α:=α))) {i:Int} {c:α} (hi:okI i) (hc:El.ok c) (hn:n<maxLen) :
  ∃ w',(Instr.mapUpdate t (.map (some b)) (.int .i64 i) (El.val c)).run P w=.ok () w'∧MapV P k e w' b (n+1) (updF f i c)∧w.grownBy w' (some b):=by
 obtain ⟨D,C,I⟩:=h;obtain ⟨w',J,K,L⟩:=C.update (Maps.int_keyed hk) ht hn (Maps.keyOf_int_mk hk (wf_i64.2 hi)) (El.rd he hc);refine ⟨w',J,⟨_,K,fun j hj=>?_⟩,L⟩;have E:=C.isMap;have B:WideAt.IsKeyLit (.int .i64 i):=(Maps.int_keyed hk).key (Maps.keyOf_int_mk hk (wf_i64.2 hi));unfold updF;by_cases hji:j=i
 ·
  subst hji
  rw [if_pos rfl];exact ⟨Maps.has_put_same E B _,(fun z a ha=>by obtain rfl:=Option.some.inj ha;exact Maps.atKey_put_same E B _ z),(fun z h=>by cases h)⟩
 rw [if_neg hji];have A:(Lit.int .i64 j:Lit)≠.int .i64 i:=fun h=>hji (by injection h)
 obtain ⟨F,G,H⟩:=I j hj;exact ⟨(Maps.has_put_other A _).trans F,fun z a ha=>(Maps.atKey_put_other A _ z).trans (G z a ha),fun z hz=>(Maps.atKey_put_other A _ z).trans (H z hz)⟩
theorem step_put {ops:Array Oper} {o:Oper} {a:Act} {K:Act→World→Prop} {Q:Exit→Act→World→Prop} {Z:Prop} (hgd:o.guard=none) (m x v:Operand) (hop:o.op=Op.mapUpdate t m x v)
  (h:MapV P k e w b n f) (ht:P.underlying t=some (.map k e)) (hk:P.underlying k=some (.int .i64)) (he:P.underlying e=some (El.desc (α:=α))) (i:Int) (c:α) (hi:okI i) (hc:El.ok c) (hn:n<maxLen)
  (hm:a.eval m=.map (some b)) (hx:a.eval x=.int .i64 i) (hv:a.eval v=El.val c) (hK:∀ w',MapV P k e w' b (n+1) (updF f i c)→w.grownBy w' (some b)→K (a.put o.dst undef) w') :
  if Region.wanted o (yielded ops a.tmps)=true then Oper.wp P o a w K Q else Z:=by
 have B:Region.wanted o (yielded ops a.tmps)=true:=by simp [Region.wanted,hgd]
 rw [if_pos B];obtain ⟨w',A,C,D⟩:=h.update ht hk he hi hc hn;unfold Oper.wp;simp [execOp,hop,hm,hx,hv,A,Result.andThen]
 exact hK w' C D
end
theorem info_str2:(Tryz.prog.info? 9).map (fun i=>(i.zero,i.size))=some (some (.string ByteArray.empty),1):=by kernel_rfl
theorem zero_str (w:World):(zeroValue 9).run Tryz.prog w=.ok (El.val (El.zero:ByteArray)) w:=(zero_of_info info_str2).1 w
theorem look_str {w:World} {b n:Nat} {f:Int→Option ByteArray} (h:MapV Tryz.prog 3 9 w b n f) {i:Int} (hi:okI i):(Instr.lookup 137 (.map (some b)) (.int .i64 i) false).run Tryz.prog w=.ok (.string ((f i).getD ByteArray.empty)) w :=
 h.look Tryz.underlying137 Tryz.underlying3 Tryz.underlying9 (zero_str w) hi
theorem look_str_ok {w:World} {b n:Nat} {f:Int→Option ByteArray} (h:MapV Tryz.prog 3 9 w b n f) {i:Int} (hi:okI i):(Instr.lookup 137 (.map (some b)) (.int .i64 i) true).run Tryz.prog w=.ok (.tuple #[.string ((f i).getD ByteArray.empty),.bool (f i).isSome]) w :=
 h.look_ok Tryz.underlying137 Tryz.underlying3 Tryz.underlying9 (zero_str w) hi
def LookPost (A:Option Addr) (c:Nat) (L:List Dev) (w:World) (e:Ending) (w':World):Prop:=Below w.heap.size w w'∧∃ bp bo:Nat,e=.returned (.agg #[.slice A L.length c,.map (some bp),.map (some bo)])∧MapV Tryz.prog 3 3 w' bp L.length (plM L)∧MapV Tryz.prog 3 9 w' bo L.length (orgM L)∧w.heap.size≤bp∧w.heap.size≤bo
set_option maxRecDepth 100000 in
set_option maxHeartbeats 4000000 in
theorem look_any (A:Option Addr) (c:Nat) (L:List Dev) (w:World) (B:Nat) (hB:B≤w.heap.size) (hx:Sl w B A c L) (hv:∀ d ∈ L,d.orig.size≤32) (hl:L.length≤256):Calls Tryz.prog 119 #[.agg #[.slice A L.length c]] w (LookPost A c L w):=by
 have HX:=Lh_ hx;have HB:=Lh_ hB;have HV:=Lh_ hv;have HL:=Lh_ hl;have J2:=hx.1;have A2:=hx.2.1;unfold maxLen at A2;clear hx hB hv hl;go_enter Tryz.func119,Tryz.ntmps119;go_upto_region 1 with fail
 obtain ⟨N,Y0,A0,F,C0⟩:=bx_ w [.slice A L.length c] 47;try simp only [Y0]
 have J0:=Lh_ A0;clear Y0 A0;try rw [← F.out]
 obtain ⟨I,Z0,V,D,J⟩:=bx_ N [.slice none 0 0,.map none,.map none] 139;try simp only [Z0]
 have Z:=tb_ J0 V;have B1:=kb_ C0 V;clear Z0 V;try rw [← D.out]
 have V1:=B1.out.1 0 _ rfl;have S1:=J.out.1 0 _ rfl;have T1:=J.out.1 1 _ rfl;have U1:=J.out.1 2 _ rfl;have V0:=fun z=>run_makeMap (P:=Tryz.prog) 136 z
 have W0:=fun z=>run_makeMap (P:=Tryz.prog) 137 z
 go_upto_region 2 with fail
 clear V0 W0;obtain ⟨w3,hw3⟩:∃ z,I.alloc (.map #[] 0)=z:=⟨_,rfl⟩;obtain ⟨w4,hw4⟩:∃ z,w3.alloc (.map #[] 0)=z:=⟨_,rfl⟩;obtain ⟨w5,hw5⟩:∃ z,w4.alloc (.cells #[.slice A L.length c,.map (some I.heap.size),.map (some w3.heap.size)] 139)=z:=⟨_,rfl⟩;have R:Below I.heap.size I w3:=by rw [← hw3];exact (Below.refl _ _).alloc (Nat.le_refl _) _
 have X:Below w3.heap.size w3 w4:=by rw [← hw4];exact (Below.refl _ _).alloc (Nat.le_refl _) _
 have Y:Below w4.heap.size w4 w5:=by rw [← hw5];exact (Below.refl _ _).alloc (Nat.le_refl _) _
 have T0:MapV Tryz.prog 3 3 w3 I.heap.size 0 (fun _=>(none:Option Int)):=by rw [← hw3];exact MapV.made I _ _ _
 have U0:MapV Tryz.prog 3 9 w4 w3.heap.size 0 (fun _=>(none:Option ByteArray)):=by rw [← hw4];exact MapV.made w3 _ _ _
 have A1:BoxL w5 w4.heap.size [.slice A L.length c,.map (some I.heap.size),.map (some w3.heap.size)]:=box_mk hw5;have M:=Lh_ (show w3.heap.size=I.heap.size+1 by rw [← hw3];simp);have K0:=Lh_ (show w4.heap.size=w3.heap.size+1 by rw [← hw4];simp);simp only [hw3];try rw [show I.heap.size+1=w3.heap.size from M.out.symm]
 simp only [hw4];try simp only [hw5]
 try rw [show w3.heap.size+1=w4.heap.size from K0.out.symm]
 have Q:=R.trans ((X.trans (Y.mono X.size)).mono R.size);have E:=Lh_ (show LkSt Tryz.prog 3 9 w w.heap.size N.heap.size w4.heap.size I.heap.size w3.heap.size A c L 0 w5 from ⟨Z.out.trans (Q.mono Z.out.size),B1.out.kept (grown_none Q) (fun e=>by cases e),J.out.kept (grown_none Q) (fun e=>by cases e),A1,(T0.next X).next Y,U0.next Y⟩);clear hw3 hw4 hw5 R X Y T0 U0 A1 Q;clear V1 S1 T1 U1;have t0:=E.out.2.1.1 0 _ rfl;go_wp2_with fail;clear t0;go_loopw [15] (fun i wr=>∃ k:Nat,k≤L.length∧i=.int .i64 k∧Hid (LkSt Tryz.prog 3 9 w w.heap.size N.heap.size w4.heap.size I.heap.size w3.heap.size A c L k wr)) (fun i _=>L.length - (intOf i).toNat)
 case atStart=>exact ⟨0,Nat.zero_le _,rfl,E⟩
 obtain ⟨k,hk,rfl,E⟩:=hrel;by_cases hlt:k<L.length
 ·
  have i1:(k:Int)<(L.length:Int):=by omega
  obtain ⟨b3,o3,rfl,R,A3,c3,W,-,B0⟩:=(HX.out.keep (E.out.1.mono HB.out)).dev hlt;have G0:L[k]? = some L[k]:=List.getElem?_eq_getElem hlt;have F0:=HV.out _ (List.getElem_mem hlt);obtain ⟨y,hy⟩:∃ y,L[k]'hlt=y:=⟨_,rfl⟩;rw [hy] at W B0 G0 F0;have P0:=Lh_ G0;have O0:=Lh_ F0;have U:=Lh_ W;have G2:=Lh_ R;clear G0 F0 W R hy;obtain ⟨y0,y1,y2,y3,y4,y5,y6,y7,y8,y9⟩:=B0;go_upto_region 5 with fail
  clear y0 y1 y2 y3 y4 y5 y6 y7 y8 y9;obtain ⟨v1,hv1⟩:∃ z,wr.alloc (.cells #[.int .i64 y.idx,.int .i64 y.par,.string y.nm,.string y.orig,.string y.sub,.string y.drv,.string y.ali,.int .i64 y.kind,.int .i64 y.num,.slice A3 y.attrs.length c3] 84)=z:=⟨_,rfl⟩;have T:Below wr.heap.size wr v1:=by rw [← hv1];exact (Below.refl _ _).alloc (Nat.le_refl _) _
  have HY:=Lh_ (show BoxL v1 wr.heap.size [.int .i64 y.idx,.int .i64 y.par,.string y.nm,.string y.orig,.string y.sub,.string y.drv,.string y.ali,.int .i64 y.kind,.int .i64 y.num,.slice A3 y.attrs.length c3] from box_mk hv1);have O:=Lh_ (E.out.below T);try simp only [hv1]
  clear hv1 T;have z1:=O.out.2.2.2.1.1 2 _ rfl;have p1:=HY.out.1 1 _ rfl;have p3:=HY.out.1 3 _ rfl;have S0:=look_str O.out.2.2.2.2.2 U.out.2.1;have E0:=orgM_str (L.take k) y.par;obtain ⟨s,hs⟩:∃ s,(orgM (L.take k) y.par).getD ByteArray.empty=s:=⟨_,rfl⟩;rw [hs] at S0 E0;have X0:s.size≤8448:=by rw [E0];exact str_size (fun d hd=>HV.out d (List.mem_of_mem_take hd)) (by rw [List.length_take];have:=HL.out;omega) _
  have HS:=Lh_ hs;have P1:=Lh_ X0;clear hs E0;have Y1:¬ 9223372036854775807<s.size+1:=by omega
  have Z1:¬ 9223372036854775807<s.size+1+y.orig.size:=by have:=O0.out;omega
  go_upto_region 6 with fail
  clear S0 z1 p1 p3 X0;clear Y1 Z1;refine wp_region_held_drew (S:=fun w'=>BoxL w' w4.heap.size [.slice (some ⟨b3,o3,none⟩) L.length c,.map (some I.heap.size),.map (some w3.heap.size)]∧BoxL w' wr.heap.size [.int .i64 y.idx,.int .i64 y.par,.string y.nm,.string y.orig,.string y.sub,.string y.drv,.string y.ali,.int .i64 y.kind,.int .i64 y.num,.slice A3 y.attrs.length c3]) (by kernel_rfl) ⟨O.out.2.2.2.1.drew,HY.out.drew⟩ (fun hS0=>?_);obtain ⟨wd,hwd⟩:∃ z,v1.drew=z:=⟨_,rfl⟩;have T:Below v1.heap.size v1 wd:=by rw [← hwd];exact below_drewN_self _ _ 1
  rw [hwd] at hS0 ⊢;have C:=Lh_ (O.out.below T);have G:=kb_ HY T;clear hwd T hS0;refine tk1 0 29 (.pointer (some ⟨w4.heap.size,1,none⟩)) rfl (fun w' hS=>by go_simp) ⟨C.out.2.2.2.1,G.out⟩ ?_;try simp only [zP,zA,zB,zC]
  refine tk1 1 30 (.map (some I.heap.size)) rfl (fun w' hS=>by (have u:=hS.1.1 1 _ rfl;go_simp)) ⟨C.out.2.2.2.1,G.out⟩ ?_;try simp only [zP,zA,zB,zC]
  refine tk1 2 31 (.pointer (some ⟨wr.heap.size,0,none⟩)) rfl (fun w' hS=>by go_simp) ⟨C.out.2.2.2.1,G.out⟩ ?_;try simp only [zP,zA,zB,zC]
  refine tk1 3 32 (.int .i64 y.idx) rfl (fun w' hS=>by (have u:=hS.2.1 0 _ rfl;go_simp)) ⟨C.out.2.2.2.1,G.out⟩ ?_;try simp only [zP,zA,zB,zC]
  refine tk1 4 33 (.pointer (some ⟨w4.heap.size,2,none⟩)) rfl (fun w' hS=>by go_simp) ⟨C.out.2.2.2.1,G.out⟩ ?_;try simp only [zP,zA,zB,zC]
  refine tk1 5 34 (.map (some w3.heap.size)) rfl (fun w' hS=>by (have u:=hS.1.1 2 _ rfl;go_simp)) ⟨C.out.2.2.2.1,G.out⟩ ?_;try simp only [zP,zA,zB,zC]
  refine tk1 6 35 (.pointer (some ⟨wr.heap.size,0,none⟩)) rfl (fun w' hS=>by go_simp) ⟨C.out.2.2.2.1,G.out⟩ ?_;try simp only [zP,zA,zB,zC]
  refine tk1 7 36 (.int .i64 y.idx) rfl (fun w' hS=>by (have u:=hS.2.1 0 _ rfl;go_simp)) ⟨C.out.2.2.2.1,G.out⟩ ?_;try simp only [zP,zA,zB,zC]
  refine tk1 8 37 (.int .i64 k) rfl (fun w' hS=>by go_simp) ⟨C.out.2.2.2.1,G.out⟩ ?_;try simp only [zP,zA,zB,zC]
  refine tk1 9 38 (.string (s ++ ⟨#[47]⟩ ++ y.orig)) rfl (fun w' hS=>by go_simp) ⟨C.out.2.2.2.1,G.out⟩ ?_;try simp only [zP,zA,zB,zC]
  have H:=Lh_ (show (I.heap.size≠w.heap.size∧I.heap.size≠N.heap.size∧I.heap.size≠w4.heap.size∧I.heap.size≠wr.heap.size∧I.heap.size≠w3.heap.size)∧(w3.heap.size≠w.heap.size∧w3.heap.size≠N.heap.size∧w3.heap.size≠w4.heap.size∧w3.heap.size≠wr.heap.size) by have:=E.out.2.2.2.1.2.2;have:=F.out;have:=D.out;have:=M.out;have:=K0.out;omega);refine rd1 10 (o:=⟨none,.mapUpdate _ _ _ _,_,_,_,_⟩) rfl (fun K hK=>?_);refine step_put rfl _ _ _ rfl C.out.2.2.2.2.1 Tryz.underlying136 Tryz.underlying3 Tryz.underlying3 y.idx (k:Int) U.out.1 (by show okI (k:Int);unfold okI;have:=HL.out;omega) (by have:=HL.out;unfold maxLen;omega) (by simp [Act.eval,Act.put]) (by simp [Act.eval,Act.put]) (by simp [Act.eval,Act.put];try rfl) ?_;intro v2 hm_ hg_;have K1:=Lh_ hm_;have H1:=Lh_ (C.out.2.2.2.2.2.kept hg_ (fun e=>H.out.1.2.2.2.2 (Option.some.inj e).symm));have H0:=Lh_ (C.out.1.grown hg_ C.out.1.size (fun q hq=>by have:=Option.some.inj hq;have:=F.out;have:=D.out;omega));have F1:=Lh_ (C.out.2.1.kept hg_ (fun e=>H.out.1.1 (Option.some.inj e).symm));have N1:=Lh_ (C.out.2.2.1.kept hg_ (fun e=>H.out.1.2.1 (Option.some.inj e).symm));have M0:=Lh_ (C.out.2.2.2.1.kept hg_ (fun e=>H.out.1.2.2.1 (Option.some.inj e).symm));have Q0:=Lh_ (G.out.kept hg_ (fun e=>H.out.1.2.2.2.1 (Option.some.inj e).symm));clear hm_ hg_;refine hK.out _ _ ⟨M0.out,Q0.out⟩ (fun _=>?_);clear hK K;try simp only [zP,zA,zB,zC]
  refine rd1 11 (o:=⟨none,.mapUpdate _ _ _ _,_,_,_,_⟩) rfl (fun K hK=>?_);refine step_put rfl _ _ _ rfl H1.out Tryz.underlying137 Tryz.underlying3 Tryz.underlying9 y.idx (s ++ ⟨#[47]⟩ ++ y.orig) U.out.1 (by show (s ++ ⟨#[47]⟩ ++ y.orig).size≤maxLen;rw [ByteArray.size_append,ByteArray.size_append];have:=P1.out;have:=O0.out;have h5:(⟨#[47]⟩:ByteArray).size=1:=rfl;unfold maxLen;omega) (by have:=HL.out;unfold maxLen;omega) (by simp [Act.eval,Act.put]) (by simp [Act.eval,Act.put]) (by simp [Act.eval,Act.put];try rfl) ?_;intro v3 hm_ hg_;have I1:=Lh_ hm_;have L1:=Lh_ (K1.out.kept hg_ (fun e=>H.out.1.2.2.2.2 (Option.some.inj e)));have I0:=Lh_ (H0.out.grown hg_ H0.out.size (fun q hq=>by have:=Option.some.inj hq;have:=F.out;have:=D.out;have:=M.out;omega));have G1:=Lh_ (F1.out.kept hg_ (fun e=>H.out.2.1 (Option.some.inj e).symm));have O1:=Lh_ (N1.out.kept hg_ (fun e=>H.out.2.2.1 (Option.some.inj e).symm));have N0:=Lh_ (M0.out.kept hg_ (fun e=>H.out.2.2.2.1 (Option.some.inj e).symm));have Q1:=Lh_ (Q0.out.kept hg_ (fun e=>H.out.2.2.2.2 (Option.some.inj e).symm));clear hm_ hg_;refine hK.out _ _ ⟨N0.out,Q1.out⟩ (fun _=>?_);clear hK K;try simp only [zP,zA,zB,zC]
  refine wpAnyH_done (by kernel_rfl) ?_ _;have R0:=plM_step hlt P0.out;have D0:=orgM_step P0.out;rw [HS.out] at D0;have L0:=Lh_ (show LkSt Tryz.prog 3 9 w w.heap.size N.heap.size w4.heap.size I.heap.size w3.heap.size (some ⟨b3,o3,none⟩) c L (k+1) v3 from ⟨I0.out,G1.out,O1.out,N0.out,by rw [R0];exact L1.out,by rw [D0];exact I1.out⟩);clear R0 D0;go_wp2;go_roundw
  case rel=>exact ⟨k+1,by omega,by go_num,L0⟩
  simp [intOf];omega
 have i1:¬ (k:Int)<(L.length:Int):=by omega
 obtain rfl:k=L.length:=by omega
 have hp:=E.out.2.2.2.2.1;have ho:=E.out.2.2.2.2.2;rw [List.take_length] at hp ho;have M1:=Lh_ hp;have J1:=Lh_ ho;clear hp ho;have z0:=E.out.2.2.2.1.1 0 _ rfl;have z1:=E.out.2.2.2.1.1 1 _ rfl;have z2:=E.out.2.2.2.1.1 2 _ rfl;have r0:=E.out.2.2.1.1 0 _ rfl;have r1:=E.out.2.2.1.1 1 _ rfl;have r2:=E.out.2.2.1.1 2 _ rfl;have rf:=E.out.2.2.1.2.1;go_wp2;refine bodyPost_ret (v:=.agg #[.slice A L.length c,.map (some I.heap.size),.map (some w3.heap.size)]) (by simp [results,Tryz.results119,go_sem,r0,r1,r2,rf]) rfl ⟨((E.out.1.setCell (by show w.heap.size≤N.heap.size;have:=F.out;omega) _).setCell (by show w.heap.size≤N.heap.size;have:=F.out;omega) _).setCell (by show w.heap.size≤N.heap.size;have:=F.out;omega) _,I.heap.size,w3.heap.size,rfl,?_,?_,by have:=F.out;have:=D.out;omega,by have:=F.out;have:=D.out;have:=M.out;omega⟩
 · exact ((M1.out.kept (grown_one _ N.heap.size 0 _) (fun e=>by have:=Option.some.inj e;have:=D.out;omega)).kept (grown_one _ N.heap.size 1 _) (fun e=>by have:=Option.some.inj e;have:=D.out;omega)).kept (grown_one _ N.heap.size 2 _) (fun e=>by have:=Option.some.inj e;have:=D.out;omega)
 exact ((J1.out.kept (grown_one _ N.heap.size 0 _) (fun e=>by have:=Option.some.inj e;have:=D.out;have:=M.out;omega)).kept (grown_one _ N.heap.size 1 _) (fun e=>by have:=Option.some.inj e;have:=D.out;have:=M.out;omega)).kept (grown_one _ N.heap.size 2 _) (fun e=>by have:=Option.some.inj e;have:=D.out;have:=M.out;omega)
theorem field_view (a b c:Value) (w:World):(Instr.field 139 (.agg #[a,b,c]) 2).run Tryz.prog w=.ok c w:=by
 simp [Instr.field,run_underlying Tryz.underlying139,asAgg,part,sizeOf,typeInfo]
set_option maxRecDepth 100000 in
theorem Origin_any (A:Option Addr) (c:Nat) (L:List Dev) (n:Int) (w:World) (B:Nat) (hB:B≤w.heap.size) (hx:Sl w B A c L) (hv:∀ d ∈ L,d.orig.size≤32) (hl:L.length≤256) (hn:okI n):Calls Tryz.prog 68 #[.agg #[.slice A L.length c],.int .i64 n] w fun e w'=>e=.returned (.tuple #[.string (strF L n),.bool ((idxs L).contains n)])∧Below w.heap.size w w':=by
 have T:=Lh_ hx;have N:=Lh_ hB;have S:=Lh_ hv;have O:=Lh_ hl;have P:=Lh_ hn;clear hx hB hv hl hn;go_enter Tryz.func68,Tryz.ntmps68;go_upto_region 1 with fail
 obtain ⟨Y,K,F,H,D⟩:=bx_ w [.slice A L.length c] 47;try simp only [K]
 have C:=Lh_ F;clear K F;try rw [← H.out]
 have M:=D.out.1 0 _ rfl;go_wp2_with fail;refine (look_any A c L _ B (Nat.le_trans N.out C.out.size) (T.out.keep (C.out.mono N.out)) S.out O.out).mono ?_;rintro e w2 ⟨E,V,U,rfl,-,J,-⟩;clear M;have G:=tb_ C E;have X:=kb_ D E;clear E;have I:=look_str_ok J P.out;rw [orgM_str,orgM_some] at I;clear J;have W:=field_view (.slice A L.length c) (.map (some V)) (.map (some U)) w2;obtain ⟨s,hs⟩:∃ s,strF L n=s:=⟨_,rfl⟩;obtain ⟨q,hq⟩:∃ q,(idxs L).contains n=q:=⟨_,rfl⟩;rw [hs,hq] at I;have R:=Lh_ hs;have Q:=Lh_ hq;clear hs hq;go_wp2;go_ret2;exact ⟨by rw [R.out,Q.out];rfl,G.out⟩
def slashE:ByteArray:=⟨#[47,40,44,41,58]⟩
theorem isNone_no {t:ByteArray} (h:∀ n,Lib.atoiAll t.data.toList≠.ok n):(numP t).isNone=true:=by
 unfold numP;split
 · exact absurd (by assumption) (h _)
 rfl

def ifaceV (ev:Value):Prop:=ev=.nilIface∨∃ te pe,ev=.iface te pe
def Ok7 (w:World):Prop:=(∃ ev,w.cell? ⟨2,0,none⟩=some ev∧ifaceV ev)∧(∃ ev,w.cell? ⟨3,0,none⟩=some ev∧ifaceV ev)∧
 Lib.TabIs Tryz.prog w "internal/strconv.uint64pow10" .u64 Lib.pow10Tab
theorem tab_named : Tryz.prog.globalNamed "internal/strconv.uint64pow10" = some 1 := by kernel_rfl
theorem var_keep {P:Program} {w w':World} {n:String} {g:Nat} (hg:P.globalNamed n=some g) (h:w'.heap[g]? = w.heap[g]?):w'.var? P n=w.var? P n:=by
 simp [World.var?,hg,h]
theorem Ok7.lt {w:World} (h:Ok7 w):2<w.heap.size∧3<w.heap.size∧1<w.heap.size:=by
 obtain ⟨⟨D,B,_⟩,⟨E,C,_⟩,A⟩:=h;refine ⟨block_lt_of_cell B,block_lt_of_cell C,?_⟩;unfold Lib.TabIs World.var? at A;rw [tab_named] at A;simp only [Option.bind_some] at A;by_cases hlt:1<w.heap.size
 · exact hlt
 rw [Array.getElem?_eq_none (by omega)] at A;cases A
theorem Ok7.below {w w':World} (h:Ok7 w) (hb:Below w.heap.size w w'):Ok7 w':=by
 obtain ⟨F,G,H⟩:=h.lt;obtain ⟨⟨B,D,I⟩,⟨C,E,J⟩,A⟩:=h;refine ⟨⟨B,(hb.cell (p:=⟨_,0,none⟩) (by exact F)).trans D,I⟩,⟨C,(hb.cell (p:=⟨_,0,none⟩) (by exact G)).trans E,J⟩,?_⟩;unfold Lib.TabIs at A ⊢;rw [var_keep tab_named (hb.block _ H)];exact A
def GB (b:Nat):Prop:=2≠b∧3≠b∧1≠b
theorem Ok7.grown {w w':World} {b:Nat} (h:Ok7 w) (hg:w.grownBy w' (some b)) (hb:GB b):Ok7 w':=by
 obtain ⟨I,J,F⟩:=h.lt;obtain ⟨⟨B,D,G⟩,⟨C,E,H⟩,A⟩:=h;refine ⟨⟨B,hg.cell D (fun e=>hb.1 (Option.some.inj e)),G⟩,⟨C,hg.cell E (fun e=>hb.2.1 (Option.some.inj e)),H⟩,?_⟩;unfold Lib.TabIs at A ⊢;rw [var_keep tab_named (hg.block _ F (fun e=>hb.2.2 (Option.some.inj e)))];exact A

def AtoiPost (t:ByteArray) (w:World) (e:Ending) (w':World):Prop:=Below w.heap.size w w'∧∃ n ev,e=.returned (.tuple #[.int .i64 n,ev])∧okInt n∧
 ((Lib.atoiAll t.data.toList=.ok n∧ev=.nilIface)∨((numP t).isNone=true∧∃ te pe,ev=.iface te pe))
theorem Atoi_any (t:ByteArray) (w:World) (hok:Ok7 w) (ht:t.size≤1000):Calls Tryz.prog 128 #[.string t] w (AtoiPost t w):=by
 cases h:Lib.atoiAll t.data.toList
 ·
  rename_i n
  refine (Tryz.strconv_Atoi_ok t (by omega) n h w).mono ?_;rintro e w' ⟨rfl,E⟩;refine ⟨?_,n,.nilIface,rfl,Lib.atoiAll_bounds h,.inl ⟨h,rfl⟩⟩;rcases E with rfl | ⟨u,rfl⟩
  · exact Below.refl _ _
  exact Lib.bytesWorld_below _ _ _
 ·
  obtain ⟨⟨A,B,C⟩,_⟩:=hok
  refine (Any.strconv_Atoi_syntax Tryz.laysC172 t (by omega) h A w B C).mono ?_;rintro e w' ⟨N,rfl,_,_,D⟩;exact ⟨D,0,_,rfl,by unfold okInt;omega,.inr ⟨isNone_no (fun n hn=>by rw [h] at hn;cases hn),_,_,rfl⟩⟩
 obtain ⟨_,⟨A,B,C⟩,_⟩:=hok;refine (Any.strconv_Atoi_range Tryz.laysC172 t (by omega) h A w B C).mono ?_;rintro e w' ⟨N,rfl,_,_,D⟩;exact ⟨D,_,_,rfl,by unfold okInt Lib.atoiSat;split <;> omega,.inr ⟨isNone_no (fun n hn=>by rw [h] at hn;cases hn),_,_,rfl⟩⟩
theorem Itoa_any (n:Int) (w:World) (hok:Ok7 w) (hn:okInt n):Calls Tryz.prog 52 #[.int .i64 n] w fun e w'=>e=.returned (.string ⟨(Lib.itoa n).toArray⟩)∧Below w.heap.size w w':=by
 refine (Tryz.strconv_Itoa n hn.1 hn.2 w hok.2.2).mono ?_;rintro e w' ⟨rfl,k,A,rfl⟩;exact ⟨rfl,Lib.below_grow _ _ (Nat.le_refl _) _ _⟩

def IxOk (s:ByteArray):Prop:=∀ ends ∈ [slashE,⟨#[58,44,41]⟩,⟨#[58,40,44,41]⟩,⟨#[44,41]⟩],∀ k,k≤s.size→∀ W,
 Calls Tryz.prog 150 #[.string (s.extract k s.size),.string ends] W fun e W'=>e=.returned (.int .i64 (Lib.indexAny (s.extract k s.size).data.toList ends.data.toList))∧Below W.heap.size W W'

def getA:List Attr→ByteArray→Option ByteArray
 | [],_=>none
 | a :: l,n=>if a.name=n then some a.value else getA l n
theorem getA_yes {xs:List Attr} {n:ByteArray} {k:Nat} {y:Attr} (hlt:k<xs.length) (hy:xs[k]=y) (h:y.name=n):getA (xs.drop k) n=some y.value:=by
 rw [List.drop_eq_getElem_cons hlt,hy,getA,if_pos h]
theorem getA_no {xs:List Attr} {n:ByteArray} {k:Nat} {y:Attr} (hlt:k<xs.length) (hy:xs[k]=y) (h:y.name≠n):getA (xs.drop k) n=getA (xs.drop (k+1)) n:=by
 rw [List.drop_eq_getElem_cons hlt,hy,getA,if_neg h]
theorem getA_size {xs:List Attr} {n:ByteArray} {m:Nat} (h:∀ a ∈ xs,a.value.size≤m):((getA xs n).getD ByteArray.empty).size≤m:=by
 induction xs with
 | nil=>show (0:Nat)≤m;omega
 | cons a l ih =>
  rw [getA];split
  · exact h a List.mem_cons_self
  exact ih fun b hb=>h b (List.mem_cons_of_mem _ hb)
theorem ret_get {o:Option ByteArray} {s:ByteArray} {b:Bool} (h:o.getD ByteArray.empty=s∧o.isSome=b):Ending.returned (.tuple #[.string s,.bool b])=.returned (.tuple #[.string (o.getD ByteArray.empty),.bool o.isSome]):=by rw [h.1,h.2]
theorem Get_any (A:Option Addr) (c:Nat) (xs:List Attr) (n:ByteArray) (w:World) (B:Nat) (hB:B≤w.heap.size) (hx:Sl w B A c xs) :
  Calls Tryz.prog 110 #[.slice A xs.length c,.string n] w fun e w'=>e=.returned (.tuple #[.string ((getA xs n).getD ByteArray.empty),.bool (getA xs n).isSome])∧Below w.heap.size w w':=by
 have S:=hx.1;have M:=hx.2.1;unfold maxLen at M;have Q:=Lh_ hx;have P:=Lh_ hB;have U:=Lh_ M;clear hx hB;go_enter Tryz.func110,Tryz.ntmps110;go_wp2_with fail;go_loopw [10] (fun i wr=>∃ k:Nat,k≤xs.length∧i=.int .i64 k∧Hid (Below w.heap.size w wr)∧Hid (getA xs n=getA (xs.drop k) n)) (fun i _=>xs.length - (intOf i).toNat)
 case atStart=>exact ⟨0,Nat.zero_le _,rfl,Below.refl _ _,rfl⟩
 obtain ⟨k,V,rfl,C,N⟩:=hrel;by_cases hlt:k<xs.length
 ·
  have W:(k:Int)<(xs.length:Int):=by omega
  obtain ⟨b,o,rfl,R,L,I,J⟩:=(Q.out.keep (C.out.mono P.out)).attr hlt;obtain ⟨y,hy⟩:∃ y,xs[k]'hlt=y:=⟨_,rfl⟩;rw [hy] at L I J;have O:=Lh_ hy;have G:=Lh_ hlt;clear hy L R;go_upto_region 4 with fail
  obtain ⟨w1,hw1⟩:∃ w1,wr.alloc (.cells #[.string y.name,.string y.value] 53)=w1:=⟨_,rfl⟩;have H:Below wr.heap.size wr w1:=by rw [← hw1];exact (Below.refl _ _).alloc (Nat.le_refl _) _
  have D:BoxL w1 wr.heap.size [.string y.name,.string y.value]:=box_mk hw1;try rw [hw1]
  have X:=D.1 0 _ rfl;have Y:=D.1 1 _ rfl;have E:=tb_ C H;clear hw1 H D I J;by_cases hn:y.name=n
  ·
   have T:(y.name.toList == n.toList)=true:=by rw [ba_beq];exact decide_eq_true hn
   have F:=Lh_ (show getA xs n=some y.value by rw [N.out];exact getA_yes G.out O.out hn);clear hn;go_wp2;go_ret2;exact ⟨ret_get (by rw [F.out];exact ⟨rfl,rfl⟩),E.out⟩
  have T:(y.name.toList == n.toList)=false:=by rw [ba_beq];exact decide_eq_false hn
  have F:=Lh_ (show getA xs n=getA (xs.drop (k+1)) n by rw [N.out];exact getA_no G.out O.out hn);clear hn;go_wp2;go_roundw
  case rel=>exact ⟨k+1,by omega,by go_num,E,F⟩
  simp [intOf];omega
 have K:k=xs.length:=by omega
 have F:=Lh_ (show getA xs n=none by rw [N.out,K,List.drop_length];rfl);clear N;subst K;go_wp2;go_ret2;exact ⟨ret_get (by rw [F.out];exact ⟨rfl,rfl⟩),C.out⟩
theorem RGet_any (A:Option Addr) (c:Nat) (xs:List Attr) (n:ByteArray) (w:World) (B:Nat) (hB:B≤w.heap.size) (hx:Sl w B A c xs) :
  Calls Tryz.prog 102 #[.slice A xs.length c,.string n] w fun e w'=>e=.returned (.tuple #[.string ((getA xs n).getD ByteArray.empty),.bool (getA xs n).isSome])∧w'=w:=by
 have N:=hx.1;have G:=hx.2.1;unfold maxLen at G;have L:=Lh_ hx;have P:=Lh_ G;clear hx hB;go_enter Tryz.func102,Tryz.ntmps102;go_wp2_with fail;go_loop [6] (fun i=>∃ k:Nat,k≤xs.length∧i=.int .i64 k∧Hid (getA xs n=getA (xs.drop k) n)) (fun i=>xs.length - (intOf i).toNat)
 case atStart=>exact ⟨0,Nat.zero_le _,rfl,rfl⟩
 obtain ⟨k,Q,rfl,H⟩:=hrel;by_cases hlt:k<xs.length
 ·
  have R:(k:Int)<(xs.length:Int):=by omega
  obtain ⟨b,o,rfl,M,F,I,J⟩:=L.out.attr hlt;obtain ⟨y,hy⟩:∃ y,xs[k]'hlt=y:=⟨_,rfl⟩;rw [hy] at F I J;have K:=Lh_ hy;have D:=Lh_ hlt;clear hy F M;by_cases hn:y.name=n
  ·
   have O:(y.name.toList == n.toList)=true:=by rw [ba_beq];exact decide_eq_true hn
   have C:=Lh_ (show getA xs n=some y.value by rw [H.out];exact getA_yes D.out K.out hn);clear hn;go_wp2;go_ret2;exact ⟨ret_get (by rw [C.out];exact ⟨rfl,rfl⟩),rfl⟩
  have O:(y.name.toList == n.toList)=false:=by rw [ba_beq];exact decide_eq_false hn
  have C:=Lh_ (show getA xs n=getA (xs.drop (k+1)) n by rw [H.out];exact getA_no D.out K.out hn);clear hn;go_wp2;go_round
  case rel=>exact ⟨k+1,by omega,by go_num,C⟩
  simp [intOf];omega
 have E:k=xs.length:=by omega
 have C:=Lh_ (show getA xs n=none by rw [H.out,E,List.drop_length];rfl);clear H;subst E;go_wp2;go_ret2;exact ⟨ret_get (by rw [C.out];exact ⟨rfl,rfl⟩),rfl⟩
theorem strLt_iff {a b:ByteArray}:strLt a b=true↔cmpB a b<0:=by
 unfold strLt;constructor
 · intro h;rw [cmpB_less h];decide
 intro h;cases hl:Op.bytesLess a.toList b.toList with
 | true=>rfl
 | false =>
  by_cases he:a=b
  · rw [cmpB_eq he] at h;exact absurd h (by decide)
  rw [cmpB_more hl he] at h;exact absurd h (by decide)
theorem strLt_irr (a:ByteArray):strLt a a=false:=by
 cases h:strLt a a with
 | false=>rfl
 | true=>have:=strLt_iff.1 h;rw [cmpB_eq rfl] at this;exact absurd this (by decide)
theorem strLt_trans {a b c:ByteArray} (h1:strLt a b=true) (h2:strLt b c=true):strLt a c=true :=
 strLt_iff.2 (cmpB_total.lt a b c (strLt_iff.1 h1) (strLt_iff.1 h2))
theorem strLt_asym {a b:ByteArray} (h:strLt a b=true):strLt b a=false:=by
 cases h2:strLt b a with
 | false=>rfl
 | true=>have:=strLt_trans h h2;rw [strLt_irr] at this;cases this
theorem strLt_tri {a b:ByteArray} (h1:strLt a b=false) (h2:strLt b a=false):a=b:=by
 by_cases h:cmpB a b=0
 · exact cmpB_zero h
 exfalso
 rcases cmpB_cases a b with h3 | h3 | h3
 · rw [strLt_iff.2 (by omega)] at h1;cases h1
 · exact h h3
 have:=cmpB_total.anti a b;rw [strLt_iff.2 (by omega)] at h2;cases h2
theorem sortedA_cons {a:Attr} {l:List Attr}:sortedA (a :: l)=true↔(∀ b ∈ l,strLt a.name b.name=true)∧sortedA l=true:=by
 induction l generalizing a with
 | nil=>simp [sortedA]
 | cons b r ih =>
  rw [sortedA,Bool.and_eq_true];constructor
  ·
   rintro ⟨A,B⟩
   refine ⟨fun c hc=>?_,B⟩;rcases List.mem_cons.1 hc with rfl | hc
   · exact A
   exact strLt_trans A ((ih.1 B).1 c hc)
  rintro ⟨A,B⟩;exact ⟨A b List.mem_cons_self,B⟩
theorem sortedA_append {l r:List Attr}:sortedA (l ++ r)=true↔sortedA l=true∧sortedA r=true∧∀ a ∈ l,∀ b ∈ r,strLt a.name b.name=true:=by
 induction l with
 | nil=>simp [sortedA]
 | cons x l ih =>
  rw [List.cons_append,sortedA_cons,sortedA_cons,ih];constructor
  ·
   rintro ⟨A,C,D,B⟩
   exact ⟨⟨fun b hb=>A b (List.mem_append_left _ hb),C⟩,D,fun a ha b hb=>by
    rcases List.mem_cons.1 ha with rfl | ha
    · exact A b (List.mem_append_right _ hb)
    · exact B a ha b hb⟩
  rintro ⟨⟨A,C⟩,D,B⟩;exact ⟨fun b hb=>by
   rcases List.mem_append.1 hb with hb | hb
   · exact A b hb
   · exact B x List.mem_cons_self b hb,C,D,fun a ha b hb=>B a (List.mem_cons_of_mem _ ha) b hb⟩
def ltP (n:ByteArray) (a:Attr):Bool:=strLt a.name n
def posA (l:List Attr) (n:ByteArray):Nat:=(l.takeWhile (ltP n)).length
theorem posA_le (l:List Attr) (n:ByteArray):posA l n≤l.length:=by
 unfold posA;exact (List.takeWhile_prefix (ltP n)).length_le
theorem posA_spec {l:List Attr} (h:sortedA l=true) (n:ByteArray):(∀ (i:Nat) (a:Attr),l[i]? = some a→(strLt a.name n=true↔i<posA l n)):=by
 induction l with
 | nil=>intro i a hi;simp at hi
 | cons x r ih =>
  obtain ⟨A,B⟩:=sortedA_cons.1 h;intro i a hi;unfold posA;rw [List.takeWhile_cons];cases hx:ltP n x with
  | true =>
   simp only [if_true,List.length_cons];cases i with
   | zero=>simp at hi;subst hi;exact ⟨fun _=>by omega,fun _=>hx⟩
   | succ i =>
    simp at hi
    have:=ih B i a hi;unfold posA at this;rw [this];omega
  | false =>
   simp only [Bool.false_eq_true,if_false,List.length_nil,Nat.not_lt_zero,iff_false];intro ha;cases i with
   | zero=>simp at hi;subst hi;unfold ltP at hx;rw [hx] at ha;cases ha
   | succ i =>
    simp at hi
    have:=strLt_trans (A a (List.mem_of_getElem? hi)) ha;unfold ltP at hx;rw [hx] at this;cases this
theorem posA_unique {l:List Attr} {n:ByteArray} {k:Nat} (h:sortedA l=true) (hk:k≤l.length) (h1:∀ (i:Nat) (a:Attr),l[i]? = some a→i<k→strLt a.name n=true) (h2:∀ (i:Nat) (a:Attr),l[i]? = some a→k≤i→strLt a.name n=false):posA l n=k:=by
 have D:=posA_spec h n;have E:=posA_le l n;rcases Nat.lt_trichotomy (posA l n) k with hlt | he | hgt
 ·
  exfalso
  have C:posA l n<l.length:=by omega
  have A:=List.getElem?_eq_getElem C;have B:=h1 _ _ A hlt;have:=(D _ _ A).1 B;omega
 · exact he
 exfalso
 have C:k<l.length:=by omega
 have A:=List.getElem?_eq_getElem C;have B:=h2 _ _ A (Nat.le_refl _);have:=(D _ _ A).2 hgt;rw [B] at this;cases this
def atA (l:List Attr) (n:ByteArray):Bool:=match l[posA l n]? with | some a=>decide (a.name=n) | none=>false
theorem setGo_lt {n v:ByteArray}:∀ {A B:List Attr} {d:Bool},(∀ a ∈ A,strLt a.name n=true)→setGo n v d (A ++ B)=A ++ setGo n v d B
 | [],B,d,_=>rfl
 | a :: A,B,d,h=>by
  have ha:=h a List.mem_cons_self;have hne:a.name≠n:=fun e=>by rw [e,strLt_irr] at ha;cases ha
  rw [List.cons_append,setGo,if_neg hne,setGo_lt (fun b hb=>h b (List.mem_cons_of_mem _ hb))];have hg:geA a.name n=false:=by unfold geA;rw [ha];rfl
  rw [hg,Bool.and_false,Bool.or_false];simp
theorem setGo_gt {n v:ByteArray}:∀ {B:List Attr},(∀ b ∈ B,b.name≠n)→setGo n v true B=B
 | [],_=>rfl
 | b :: B,h=>by
  rw [setGo,if_neg (h b List.mem_cons_self),Bool.true_or,setGo_gt (fun c hc=>h c (List.mem_cons_of_mem _ hc))];simp
def putL (l:List Attr) (n v:ByteArray):List Attr :=
 l.take (posA l n) ++ ((if v.toList.isEmpty then [] else [⟨n,v⟩]) ++ l.drop (posA l n+(if atA l n then 1 else 0)))
theorem set_put {l:List Attr} (h:sortedA l=true) (n v:ByteArray):setA l n v=putL l n v:=by
 have G:=posA_spec h n;have K:=posA_le l n;unfold putL setA;obtain ⟨k,hk⟩:∃ k,posA l n=k:=⟨_,rfl⟩;have H:∀ a ∈ l.take k,strLt a.name n=true:=fun a ha=>by
  obtain ⟨i,D,rfl⟩:=List.getElem_of_mem ha;rw [List.length_take] at D;exact (G i _ (by rw [List.getElem_take];exact List.getElem?_eq_getElem (by omega))).2 (by omega)
 have E:∀ b ∈ l.drop k,strLt b.name n=false:=fun b A=>by
  obtain ⟨i,D,rfl⟩:=List.getElem_of_mem A;rw [List.length_drop] at D;cases hc:strLt (l.drop k)[i].name n with
  | false=>rfl
  | true =>
   have:=(G (k+i) _ (by rw [List.getElem_drop];exact List.getElem?_eq_getElem (by omega))).1 hc;omega
 rw [hk];have C:atA l n=(match (l.drop k).head? with | some a=>decide (a.name=n) | none=>false):=by
  unfold atA;rw [hk,List.head?_drop]
 conv=>lhs;rw [← List.take_append_drop k l]
 rw [setGo_lt H];congr 1
 have F:sortedA (l.drop k)=true:=by
  have:=h;rw [← List.take_append_drop k l] at this;exact (sortedA_append.1 this).2.1
 rw [C];rw [show l.drop (k+(if (match (l.drop k).head? with | some a=>decide (a.name=n) | none=>false)=true then 1 else 0))=(l.drop k).drop (if (match (l.drop k).head? with | some a=>decide (a.name=n) | none=>false)=true then 1 else 0) by rw [List.drop_drop]];obtain ⟨B,hBe⟩:∃ B,l.drop k=B:=⟨_,rfl⟩;rw [hBe] at E F ⊢;cases B with
 | nil=>cases hv:v.toList.isEmpty <;> simp [setGo]
 | cons b r =>
  have A:=E b List.mem_cons_self;have I:geA b.name n=true:=by unfold geA;rw [A];rfl
  have J:∀ c ∈ r,c.name≠n:=fun c hc e=>by
   have:=(sortedA_cons.1 F).1 c hc;rw [e,A] at this;cases this
  rw [setGo,I,Bool.or_true,setGo_gt J];by_cases he:b.name=n
  ·
   have:decide (b.name=n)=true:=decide_eq_true he
   simp only [List.head?_cons,this,if_true,if_pos he,List.drop_succ_cons,List.drop_zero,List.nil_append];cases hv:v.toList.isEmpty <;> simp
  have:decide (b.name=n)=false:=decide_eq_false he;simp only [List.head?_cons,this,Bool.false_eq_true,if_false,if_neg he,List.drop_zero];cases hv:v.toList.isEmpty <;> simp
theorem setA_sorted {l:List Attr} (h:sortedA l=true) (n v:ByteArray):sortedA (setA l n v)=true:=by
 rw [set_put h];have L:=posA_spec h n;unfold putL;have N:=h;rw [← List.take_append_drop (posA l n) l] at N;obtain ⟨P,E,Q⟩:=sortedA_append.1 N;have R:∀ k,sortedA ((l.drop (posA l n)).drop k)=true:=fun k=>by
  have:=E;rw [← List.take_append_drop k (l.drop (posA l n))] at this;exact (sortedA_append.1 this).2.1
 have J:∀ a ∈ l.take (posA l n),strLt a.name n=true:=fun a ha=>by
  obtain ⟨i,I,rfl⟩:=List.getElem_of_mem ha;rw [List.length_take] at I;exact (L i _ (by rw [List.getElem_take];exact List.getElem?_eq_getElem (by omega))).2 (by omega)
 have H:∀ b ∈ l.drop (posA l n+(if atA l n then 1 else 0)),strLt n b.name=true:=fun b hb=>by
  have A:b ∈ l.drop (posA l n):=by rw [← List.drop_drop] at hb;exact List.mem_of_mem_drop hb
  have K:strLt b.name n=false:=by
   obtain ⟨i,I,rfl⟩:=List.getElem_of_mem A;rw [List.length_drop] at I;cases hc:strLt (l.drop (posA l n))[i].name n with
   | false=>rfl
   | true =>
    have:=(L (posA l n+i) _ (by rw [List.getElem_drop];exact List.getElem?_eq_getElem (by omega))).1 hc;omega
  cases hc:strLt n b.name with
  | true=>rfl
  | false =>
   exfalso
   have B:=strLt_tri K hc;cases hd0:l.drop (posA l n) with
   | nil=>rw [hd0] at A;cases A
   | cons x r =>
    have D:l[posA l n]? = some x:=by
     have:(l.drop (posA l n))[0]? = some x:=by rw [hd0];rfl
     rw [List.getElem?_drop,Nat.add_zero] at this;exact this
    rw [hd0] at E;by_cases hxn:x.name=n
    ·
     have G:atA l n=true:=by unfold atA;rw [D];exact decide_eq_true hxn
     rw [G,if_pos rfl,← List.drop_drop,hd0,List.drop_succ_cons,List.drop_zero] at hb;have:=(sortedA_cons.1 E).1 b hb;rw [B,hxn,strLt_irr] at this;cases this
    rw [hd0] at A;rcases List.mem_cons.1 A with rfl | hm
    · exact hxn B
    have F:=(sortedA_cons.1 E).1 b hm;rw [B] at F;have M:strLt x.name n=false:=by
     cases hq:strLt x.name n with
     | false=>rfl
     | true=>have:=(L _ _ D).1 hq;omega
    rw [M] at F;cases F
 have O:sortedA (l.drop (posA l n+(if atA l n then 1 else 0)))=true:=by rw [← List.drop_drop];exact R _
 have C:∀ b ∈ l.drop (posA l n+(if atA l n then 1 else 0)),b ∈ l.drop (posA l n):=fun b hb=>by rw [← List.drop_drop] at hb;exact List.mem_of_mem_drop hb
 rw [sortedA_append];cases hv:v.toList.isEmpty with
 | true =>
  simp only [if_true,List.nil_append];exact ⟨P,O,fun a ha b hb=>Q a ha b (C b hb)⟩
 | false =>
  simp only [Bool.false_eq_true,if_false,List.singleton_append];refine ⟨P,sortedA_cons.2 ⟨H,O⟩,fun a ha b hb=>?_⟩;rcases List.mem_cons.1 hb with rfl | hb
  · exact J a ha
  exact Q a ha b (C b hb)
theorem getA_none {l:List Attr} {n:ByteArray}:getA l n=none↔∀ a ∈ l,a.name≠n:=by
 induction l with
 | nil=>simp [getA]
 | cons a r ih =>
  rw [getA];by_cases h:a.name=n
  · rw [if_pos h];simp [h]
  rw [if_neg h,ih];simp [h]
theorem getA_mem {l:List Attr} {n v:ByteArray} (h:getA l n=some v):(⟨n,v⟩:Attr) ∈ l:=by
 induction l with
 | nil=>cases h
 | cons a r ih =>
  rw [getA] at h;by_cases he:a.name=n
  ·
   rw [if_pos he] at h
   have:a=⟨n,v⟩:=by cases a;simp_all
   rw [this];exact List.mem_cons_self
  rw [if_neg he] at h;exact List.mem_cons_of_mem _ (ih h)
theorem getA_of {l:List Attr} (h:sortedA l=true) {a:Attr} (ha:a ∈ l):getA l a.name=some a.value:=by
 induction l with
 | nil=>cases ha
 | cons b r ih =>
  obtain ⟨A,B⟩:=sortedA_cons.1 h;rw [getA];rcases List.mem_cons.1 ha with rfl | ha
  · rw [if_pos rfl]
  rw [if_neg (fun e=>by have:=A a ha;rw [e,strLt_irr] at this;cases this)];exact ih B ha
theorem getA_append {l r:List Attr} {n:ByteArray}:getA (l ++ r) n=(getA l n).or (getA r n):=by
 induction l with
 | nil=>simp [getA]
 | cons a l ih =>
  rw [List.cons_append,getA,getA];by_cases h:a.name=n
  · rw [if_pos h,if_pos h];rfl
  rw [if_neg h,if_neg h,ih]
theorem sorted_ext:∀ {l r:List Attr},sortedA l=true→sortedA r=true→(∀ n,getA l n=getA r n)→l=r
 | [],[],_,_,_=>rfl
 | [],b :: r,_,_,h=>by
  have:=h b.name;rw [getA,getA,if_pos rfl] at this;cases this
 | a :: l,[],_,_,h=>by
  have:=h a.name;rw [getA,getA,if_pos rfl] at this;cases this
 | a :: l,b :: r,hl,hr,h=>by
  obtain ⟨l1,l2⟩:=sortedA_cons.1 hl;obtain ⟨r1,r2⟩:=sortedA_cons.1 hr;have ha:(⟨a.name,a.value⟩:Attr) ∈ b :: r:=getA_mem (by rw [← h,getA,if_pos rfl]);have hb:(⟨b.name,b.value⟩:Attr) ∈ a :: l:=getA_mem (by rw [h,getA,if_pos rfl]);have hab:a=b:=by
   rcases List.mem_cons.1 ha with h1 | h1
   · cases a;cases b;simpa using h1
   rcases List.mem_cons.1 hb with h2 | h2
   · cases a;cases b;simpa using h2.symm
   have D:=r1 _ h1;have E:=l1 _ h2;have F:strLt b.name a.name=true:=D;have A:strLt a.name b.name=true:=E;rw [strLt_asym F] at A;cases A
  subst hab;congr 1
  refine sorted_ext l2 r2 fun n=>?_
  by_cases hn:a.name=n
  ·
   have B:getA l n=none:=getA_none.2 fun c hc e=>by
    have:=l1 c hc;rw [e,← hn,strLt_irr] at this;cases this
   have C:getA r n=none:=getA_none.2 fun c hc e=>by
    have:=r1 c hc;rw [e,← hn,strLt_irr] at this;cases this
   rw [B,C]
  have:=h n;rw [getA,getA,if_neg hn,if_neg hn] at this;exact this
def valO (v:ByteArray):Option ByteArray:=if v.toList.isEmpty then none else some v
theorem getA_set {l:List Attr} (h:sortedA l=true) (k v n:ByteArray):getA (setA l k v) n=if n=k then valO v else getA l n:=by
 have N:=posA_spec h k;have Q:=posA_le l k;rw [set_put h];unfold putL;have K:=h;rw [← List.take_append_drop (posA l k) l] at K;obtain ⟨R,J,S⟩:=sortedA_append.1 K;have G:∀ a ∈ l.take (posA l k),a.name≠k:=fun a ha e=>by
  obtain ⟨i,P,rfl⟩:=List.getElem_of_mem ha;rw [List.length_take] at P;have M:=(N i (l.take (posA l k))[i] (by rw [List.getElem_take];exact List.getElem?_eq_getElem (by omega))).2 (by omega);rw [e,strLt_irr] at M;cases M
 -- what is dropped bears the name, and nothing behind it does
 have F:∀ n,n≠k→getA (l.drop (posA l k+(if atA l k then 1 else 0))) n=getA (l.drop (posA l k)) n:=fun n hn=>by
  cases A:atA l k with
  | false=>simp
  | true =>
   unfold atA at A;cases hx:l[posA l k]? with
   | none=>rw [hx] at A;cases A
   | some x =>
    rw [hx] at A;have C:x.name=k:=of_decide_eq_true A;have D:=(List.getElem?_eq_some_iff.1 hx).1;have I:=(List.getElem?_eq_some_iff.1 hx).2;rw [if_pos rfl,List.drop_eq_getElem_cons D,I,getA,if_neg (by rw [C];exact fun e=>hn e.symm)]
 have H:∀ b ∈ l.drop (posA l k+(if atA l k then 1 else 0)),b.name≠k:=fun b hb e=>by
  have B:b ∈ l.drop (posA l k):=by rw [← List.drop_drop] at hb;exact List.mem_of_mem_drop hb
  cases hd0:l.drop (posA l k) with
  | nil=>rw [hd0] at B;cases B
  | cons x r =>
   have E:l[posA l k]? = some x:=by
    have:(l.drop (posA l k))[0]? = some x:=by rw [hd0];rfl
    rw [List.getElem?_drop,Nat.add_zero] at this;exact this
   rw [hd0] at J;by_cases C:x.name=k
   ·
    have A:atA l k=true:=by unfold atA;rw [E];exact decide_eq_true C
    rw [A,if_pos rfl,← List.drop_drop,hd0,List.drop_succ_cons,List.drop_zero] at hb;have:=(sortedA_cons.1 J).1 b hb;rw [e,C,strLt_irr] at this;cases this
   rw [hd0] at B;rcases List.mem_cons.1 B with rfl | hm
   · exact C e
   have L:=(sortedA_cons.1 J).1 b hm;rw [e] at L;have:=(N _ _ E).1 L;omega
 rw [getA_append,getA_append];by_cases hn:n=k
 ·
  subst hn
  rw [if_pos rfl,getA_none.2 G,getA_none.2 H];unfold valO;cases hv:v.toList.isEmpty <;> simp [getA]
 rw [if_neg hn,F n hn];have O:getA (if v.toList.isEmpty=true then [] else [(⟨k,v⟩:Attr)]) n=none:=by
  cases hv:v.toList.isEmpty
  · simp only [Bool.false_eq_true,if_false];rw [getA,if_neg (fun e=>hn e.symm)];rfl
  rfl
 rw [O,Option.none_or,← getA_append,List.take_append_drop]
def putAll (ps:List (ByteArray × ByteArray)):List Attr:=ps.foldl (fun l p=>setA l p.1 p.2) []
theorem foldl_sorted:∀ (ps:List (ByteArray × ByteArray)) {l:List Attr},sortedA l=true→sortedA (ps.foldl (fun l p=>setA l p.1 p.2) l)=true
 | [],_,h=>h
 | p :: ps,l,h=>foldl_sorted ps (setA_sorted h p.1 p.2)
theorem putAll_sorted (ps:List (ByteArray × ByteArray)):sortedA (putAll ps)=true:=foldl_sorted ps rfl
theorem foldl_mem:∀ (ps:List (ByteArray × ByteArray)) {l:List Attr} {a:Attr},a ∈ ps.foldl (fun l p=>setA l p.1 p.2) l→a ∈ l∨(a.name,a.value) ∈ ps
 | [],_,_,h=>.inl h
 | p :: ps,l,a,h=>by
  rcases foldl_mem ps h with h | h
  ·
   rcases setA_mem l p.1 p.2 a h with h | h
   · exact .inr (by rw [h];exact List.mem_cons_self)
   exact .inl h
  exact .inr (List.mem_cons_of_mem _ h)
theorem putAll_mem {ps:List (ByteArray × ByteArray)} {a:Attr} (h:a ∈ putAll ps):(a.name,a.value) ∈ ps:=by
 rcases foldl_mem ps h with h | h
 · cases h
 exact h
theorem putAll_len (ps:List (ByteArray × ByteArray)):(putAll ps).length≤ps.length:=by
 have:∀ (ps:List (ByteArray × ByteArray)) (l:List Attr),(ps.foldl (fun l p=>setA l p.1 p.2) l).length≤l.length+ps.length:=by
  intro ps;induction ps with
  | nil=>intro l;simp
  | cons p ps ih =>
   intro l;have A:=ih (setA l p.1 p.2);have B:=setA_len l p.1 p.2;rw [List.foldl_cons,List.length_cons];omega
 have h:=this ps [];rw [List.length_nil,Nat.zero_add] at h;exact h
theorem foldl_value:∀ (ps:List (ByteArray × ByteArray)) {l:List Attr},(∀ a ∈ l,a.value.toList.isEmpty=false)→sortedA l=true→∀ a ∈ ps.foldl (fun l p=>setA l p.1 p.2) l,a.value.toList.isEmpty=false
 | [],_,h,_=>h
 | p :: ps,l,h,hs=>foldl_value ps (fun a ha=>by
   have hg:=getA_of (setA_sorted hs p.1 p.2) ha;rw [getA_set hs] at hg;by_cases he:a.name=p.1
   ·
    rw [if_pos he] at hg
    unfold valO at hg;split at hg
    · cases hg
    rename_i hv
    rw [← Option.some.inj hg];simpa using hv
   ·
    rw [if_neg he] at hg
    exact h _ (getA_mem hg)) (setA_sorted hs p.1 p.2)
theorem putAll_value (ps:List (ByteArray × ByteArray)):∀ a ∈ putAll ps,a.value.toList.isEmpty=false:=foldl_value ps (fun a ha=>by cases ha) rfl
def kDevname:ByteArray:=⟨#[68,69,86,78,65,77,69]⟩
def kDevpath:ByteArray:=⟨#[68,69,86,80,65,84,72]⟩
def kDriver:ByteArray:=⟨#[68,82,73,86,69,82]⟩
def kInterface:ByteArray:=⟨#[73,78,84,69,82,70,65,67,69]⟩
def kModalias:ByteArray:=⟨#[77,79,68,65,76,73,65,83]⟩
def kNumber:ByteArray:=⟨#[78,85,77,66,69,82]⟩
def kSubsystem:ByteArray:=⟨#[83,85,66,83,89,83,84,69,77]⟩
def baseKeys:List ByteArray:=[kDevname,kDevpath,kDriver,kInterface,kModalias,kNumber,kSubsystem]
def itoaT (n:Int):ByteArray:=⟨(Lib.itoa n).toArray⟩
def baseP (o:ByteArray) (d:Dev):List (ByteArray × ByteArray) :=
 [(kDevpath,o),(kSubsystem,d.sub),(kDriver,d.drv),(kModalias,d.ali)] ++ ((if (nodeD d).isSome then [(kDevname,nodeV d),(kNumber,itoaT d.num)] else []) ++ (if d.kind=4 then [(kInterface,d.orig)] else []))
def baseL (L:List Dev) (n:Int):List Attr:=match findD L n with | none=>[] | some d=>putAll (baseP (strF L n) d)
theorem base_keys {o:ByteArray} {d:Dev} {p:ByteArray × ByteArray} (h:p ∈ baseP o d):p.1 ∈ baseKeys:=by
 unfold baseP at h;rw [List.mem_append,List.mem_append] at h;rcases h with h | h | h
 ·
  simp only [List.mem_cons,List.not_mem_nil,or_false] at h
  rcases h with rfl | rfl | rfl | rfl <;> simp [baseKeys]
 ·
  split at h
  ·
   simp only [List.mem_cons,List.not_mem_nil,or_false] at h
   rcases h with rfl | rfl <;> simp [baseKeys]
  cases h
 split at h
 ·
  simp only [List.mem_cons,List.not_mem_nil,or_false] at h
  rcases h with rfl;simp [baseKeys]
 cases h
theorem base_mem {L:List Dev} {n:Int} {a:Attr} (h:a ∈ baseL L n):a.name ∈ baseKeys:=by
 unfold baseL at h;cases hf:findD L n with
 | none=>rw [hf] at h;cases h
 | some d=>rw [hf] at h;exact base_keys (putAll_mem h)
theorem base_sorted (L:List Dev) (n:Int):sortedA (baseL L n)=true:=by
 unfold baseL;cases findD L n with
 | none=>rfl
 | some d=>exact putAll_sorted _
def cutT (s:ByteArray):ByteArray:=s.extract 0 (min s.size 256)
theorem cut_data (s:ByteArray):(cutT s).data.toList=s.data.toList.take 256:=by
 unfold cutT;rw [ByteArray.data_extract,Array.toList_extract,List.extract_eq_take_drop,List.drop_zero,Nat.sub_zero];rw [← ba_size];by_cases h:s.data.toList.length≤256
 · rw [Nat.min_eq_left h,List.take_length,List.take_of_length_le h]
 rw [Nat.min_eq_right (by omega)]
theorem cut_small {s:ByteArray} (h:s.size≤256):cutT s=s:=by
 apply ba_ext
 rw [cut_data,List.take_of_length_le (by rw [ba_size];exact h)]
theorem cut_size (s:ByteArray):(cutT s).size=min 256 s.size:=by rw [← ba_size,cut_data,List.length_take,ba_size]
-- what may be printed
theorem valid_print {s:ByteArray} (h:validB s=true):printB s=true:=by
 unfold validB at h;simp only [Bool.and_eq_true] at h;have C:∀ x:UInt8,nameL.contains x=true→printP x=true:=by
  have A:∀ n:Fin 256,nameL.contains (UInt8.ofNat n.val)=true→printP (UInt8.ofNat n.val)=true:=by decide +kernel
  intro x;have:=A ⟨x.toNat,UInt8.toNat_lt x⟩;simpa using this
 have B:=h.2.2.2;unfold printB;rw [List.all_eq_true];intro x hx;refine C x ?_;unfold inB at B;rw [List.all_eq_true] at B;exact B x hx
theorem valid_text {s:ByteArray} (h:validB s=true):textB s=true:=by
 have:=valid_size h;unfold textB;rw [valid_print h,Bool.true_and];exact decide_eq_true (by omega)
theorem slash_print:∀ {xs:List ByteArray},xs.all validB=true→(xs.flatMap fun x=>47 :: x.data.toList).all printP=true∧(xs.flatMap fun x=>47 :: x.data.toList).length≤xs.length * 33
 | [],_=>⟨rfl,Nat.le_refl _⟩
 | x :: xs,h=>by
  rw [List.all_cons,Bool.and_eq_true] at h;obtain ⟨i1,i2⟩:=slash_print h.2;have hs:=valid_size h.1;have hp:=valid_print h.1;unfold printB at hp;rw [List.flatMap_cons];refine ⟨by rw [List.all_append,List.all_cons,hp,i1];decide,?_⟩;rw [List.length_append,List.length_cons,List.length_cons,ba_size];omega
theorem pathS_print {xs:List ByteArray} (h:xs.all validB=true):printB (pathS xs)=true∧(pathS xs).size≤xs.length * 33:=by
 obtain ⟨A,B⟩:=slash_print h;have C:(pathS xs).data.toList=xs.flatMap fun x=>47 :: x.data.toList:=by
  unfold pathS;rw [fold_data];rfl
 unfold printB;rw [← ba_size,C];exact ⟨A,B⟩
theorem str_text {L:List Dev} (h:VT L) {d:Dev} (hd:d ∈ L):textB (strF L d.idx)=true:=by
 have C:=h.dep d hd;obtain ⟨A,B⟩:=pathS_print (org_valid h d.idx);rw [strF_eq];unfold textB;rw [A,Bool.true_and];exact decide_eq_true (by omega)
theorem node_print {s:ByteArray} (h:validB s=true):textB (nodeS s)=true:=by
 have A:=valid_print h;have C:=valid_size h;unfold textB;rw [Bool.and_eq_true];constructor
 ·
  unfold printB at A ⊢
  unfold nodeS;rw [List.all_eq_true] at A ⊢;intro x hx;simp only [List.mem_map] at hx;obtain ⟨y,B,rfl⟩:=hx;split
  · decide
  exact A y B
 refine decide_eq_true ?_;unfold nodeS;rw [← ba_size];simp only [List.length_map];rw [ba_size];omega
theorem digits_print (n:Nat):∀ x ∈ Lib.decDigits n,printP x=true:=by
 have A:∀ n:Fin 10,printP (UInt8.ofNat (48+n.val))=true:=by decide +kernel
 induction n using Nat.strongRecOn with
 | ind n ih =>
  intro x hx;rw [Lib.decDigits] at hx;split at hx
  ·
   rename_i h
   rw [List.mem_singleton] at hx;rw [hx];exact A ⟨n,h⟩
  rw [List.mem_append,List.mem_singleton] at hx;rcases hx with hx | hx
  · exact ih (n / 10) (by omega) x hx
  rw [hx];exact A ⟨n % 10,by omega⟩
theorem itoa_text {n:Int} (h:okI n):textB (itoaT n)=true:=by
 have A:=Lib.itoa_length_le n h.1 h.2;unfold textB printB itoaT;rw [Bool.and_eq_true];constructor
 ·
  show (Lib.itoa n).all printP=true
  rw [List.all_eq_true];intro x hx;unfold Lib.itoa at hx;split at hx
  ·
   rcases List.mem_cons.1 hx with rfl | hx
   · decide
   exact digits_print _ x hx
  exact digits_print _ x hx
 refine decide_eq_true ?_;rw [← ba_size];show (Lib.itoa n).length≤256
 omega
def goodA (a:Attr):Prop:=keyB a.name=true∧textB a.value=true∧a.value.toList.isEmpty=false
theorem keys_key:∀ k ∈ baseKeys,keyB k=true:=by decide +kernel
theorem base_good {L:List Dev} (h:VT L) {n:Int} {a:Attr} (ha:a ∈ baseL L n):goodA a:=by
 refine ⟨keys_key _ (base_mem ha),?_,?_⟩
 ·
  unfold baseL at ha
  cases hf:findD L n with
  | none=>rw [hf] at ha;cases ha
  | some d =>
   rw [hf] at ha;have C:=putAll_value _ a ha;have A:=putAll_mem ha;obtain ⟨D,I⟩:=find_some hf;obtain ⟨J,E,G,F,H⟩:=check_names (h.chk d D);unfold baseP at A;rw [List.mem_append,List.mem_append] at A;rcases A with A | A | A
   ·
    simp only [List.mem_cons,List.not_mem_nil,or_false,Prod.mk.injEq] at A
    rcases A with ⟨-,hv⟩ | ⟨-,hv⟩ | ⟨-,hv⟩ | ⟨-,hv⟩
    · rw [hv,← I];exact str_text h D
    · rw [hv];exact valid_text G
    ·
     rw [hv] at C ⊢
     rw [C,Bool.false_or] at F;exact valid_text F
    rw [hv];exact H
   ·
    split at A
    ·
     rename_i hnd
     simp only [List.mem_cons,List.not_mem_nil,or_false,Prod.mk.injEq] at A;rcases A with ⟨-,hv⟩ | ⟨-,hv⟩
     ·
      rw [hv]
      unfold nodeV nodeD at *;split
      · exact node_print E
      rename_i hk
      rw [if_neg hk] at hnd;cases hnd
     rw [hv];refine itoa_text ?_;have B:=h.chk d D;unfold checkD at B;split at B
     · cases B
     split at B
     ·
      split at B
      · cases B
      split at B
      · cases B
      split at B
      · cases B
      rename_i hq
      unfold okI;have:1≤d.num∧d.num≤1073741824:=by
       refine ⟨Int.not_lt.1 fun h1=>hq (.inl ⟨hnd,.inl h1⟩),Int.not_lt.1 fun h1=>hq (.inl ⟨hnd,.inr h1⟩)⟩
      omega
     cases B
    cases A
   split at A
   ·
    simp only [List.mem_cons,List.not_mem_nil,or_false,Prod.mk.injEq] at A
    rw [A.2];exact valid_text E
   cases A
 unfold baseL at ha;cases hf:findD L n with
 | none=>rw [hf] at ha;cases ha
 | some d=>rw [hf] at ha;exact putAll_value _ a ha
-- a change of driver and name
end Go.Cold
