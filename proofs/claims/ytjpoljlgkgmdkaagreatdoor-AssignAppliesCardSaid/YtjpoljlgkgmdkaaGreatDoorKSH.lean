/-
  The walk of layer 7's parser: number.
-/
import Derived.Test.YtjpoljlgkgmdkaaGreatDoorKR
import Derived.Lib.AtoiAllCases
import Derived.Lib.AppendIntMem
import Derived.Lib.SmallJoins
import Derived.Test.YtjpoljlgkgmdkaaGreatDoorKA
import Derived.Test.YtjpoljlgkgmdkaaGreatDoorKD
import Derived.Deep.DeepCutAuto
import Derived.Deep.AppendLies
import Derived.Deep.RegionHeld3
import Derived.Test.YtjpoljlgkgmdkaaGreatDoorKTK
import Derived.Test.YtjpoljlgkgmdkaaGreatDoorKG
import Derived.Lib.ItoaLen
import Derived.Test.YtjpoljlgkgmdkaaGreatDoorKF
import Derived.Lib.AppendZeros
import Derived.StillTailTactics
import Derived.Lib.SlicesS
set_option linter.unusedSimpArgs false
set_option linter.unusedVariables false
namespace Go.Cold
open Go Go.RowKit
def slashE:ByteArray:=⟨#[47,40,44,41,58]⟩
theorem isNone_no {t:ByteArray} (h:∀ n,Lib.atoiAll t.data.toList≠.ok n):(numP t).isNone=true:=by
 unfold numP;split
 · exact absurd (by assumption) (h _)
 rfl
end Go.Cold
namespace Go.Proofs.YtjpoljlgkgmdkaaGreatDoor
open Go.RowKit Go.Cold

def ifaceV (ev:Value):Prop:=ev=.nilIface∨∃ te pe,ev=.iface te pe
def Ok7 (w:World):Prop:=(∃ ev,w.cell? ⟨2,0,none⟩=some ev∧ifaceV ev)∧(∃ ev,w.cell? ⟨3,0,none⟩=some ev∧ifaceV ev)∧
 Lib.TabIs Tryz.prog w "internal/strconv.uint64pow10" .u64 Lib.pow10Tab
theorem tab_named : Tryz.prog.globalNamed "internal/strconv.uint64pow10" = some 1 := by kernel_rfl
theorem var_keep {P:Program} {w w':World} {n:String} {g:Nat} (hg:P.globalNamed n=some g) (h:w'.heap[g]? = w.heap[g]?):w'.var? P n=w.var? P n:=by
 simp [World.var?,hg,h]
theorem Ok7.lt {w:World} (h:Ok7 w):2<w.heap.size∧3<w.heap.size∧1<w.heap.size:=by
 obtain ⟨⟨D,B,_⟩,⟨E,C,_⟩,A⟩:=h;refine ⟨block_lt_of_cell B,block_lt_of_cell C,?_⟩;unfold Lib.TabIs World.var? at A;rw [tab_named] at A;simp only [Option.bind_some] at A;by_cases hlt:1<w.heap.size
 · exact hlt
 rw [Array.getElem?_eq_none (by omega)] at A;cases A
theorem Ok7.below {w w':World} (h:Ok7 w) (hb:Below w.heap.size w w'):Ok7 w':=by
 obtain ⟨F,G,H⟩:=h.lt;obtain ⟨⟨B,D,I⟩,⟨C,E,J⟩,A⟩:=h;refine ⟨⟨B,(hb.cell (p:=⟨_,0,none⟩) (by exact F)).trans D,I⟩,⟨C,(hb.cell (p:=⟨_,0,none⟩) (by exact G)).trans E,J⟩,?_⟩;unfold Lib.TabIs at A ⊢;rw [var_keep tab_named (hb.block _ H)];exact A
def GB (b:Nat):Prop:=2≠b∧3≠b∧1≠b
theorem Ok7.grown {w w':World} {b:Nat} (h:Ok7 w) (hg:w.grownBy w' (some b)) (hb:GB b):Ok7 w':=by
 obtain ⟨I,J,F⟩:=h.lt;obtain ⟨⟨B,D,G⟩,⟨C,E,H⟩,A⟩:=h;refine ⟨⟨B,hg.cell D (fun e=>hb.1 (Option.some.inj e)),G⟩,⟨C,hg.cell E (fun e=>hb.2.1 (Option.some.inj e)),H⟩,?_⟩;unfold Lib.TabIs at A ⊢;rw [var_keep tab_named (hg.block _ F (fun e=>hb.2.2 (Option.some.inj e)))];exact A

def AtoiPost (t:ByteArray) (w:World) (e:Ending) (w':World):Prop:=Below w.heap.size w w'∧∃ n ev,e=.returned (.tuple #[.int .i64 n,ev])∧okInt n∧
 ((Lib.atoiAll t.data.toList=.ok n∧ev=.nilIface)∨((numP t).isNone=true∧∃ te pe,ev=.iface te pe))
theorem Atoi_any (t:ByteArray) (w:World) (hok:Ok7 w) (ht:t.size≤1000):Calls Tryz.prog 128 #[.string t] w (AtoiPost t w):=by
 cases h:Lib.atoiAll t.data.toList
 ·
  rename_i n
  refine (Tryz.strconv_Atoi_ok t (by omega) n h w).mono ?_;rintro e w' ⟨rfl,E⟩;refine ⟨?_,n,.nilIface,rfl,Lib.atoiAll_bounds h,.inl ⟨h,rfl⟩⟩;rcases E with rfl | ⟨u,rfl⟩
  · exact Below.refl _ _
  exact Lib.bytesWorld_below _ _ _
 ·
  obtain ⟨⟨A,B,C⟩,_⟩:=hok
  refine (Any.strconv_Atoi_syntax Tryz.laysC172 t (by omega) h A w B C).mono ?_;rintro e w' ⟨N,rfl,_,_,D⟩;exact ⟨D,0,_,rfl,by unfold okInt;omega,.inr ⟨isNone_no (fun n hn=>by rw [h] at hn;cases hn),_,_,rfl⟩⟩
 obtain ⟨_,⟨A,B,C⟩,_⟩:=hok;refine (Any.strconv_Atoi_range Tryz.laysC172 t (by omega) h A w B C).mono ?_;rintro e w' ⟨N,rfl,_,_,D⟩;exact ⟨D,_,_,rfl,by unfold okInt Lib.atoiSat;split <;> omega,.inr ⟨isNone_no (fun n hn=>by rw [h] at hn;cases hn),_,_,rfl⟩⟩
theorem Itoa_any (n:Int) (w:World) (hok:Ok7 w) (hn:okInt n):Calls Tryz.prog 52 #[.int .i64 n] w fun e w'=>e=.returned (.string ⟨(Lib.itoa n).toArray⟩)∧Below w.heap.size w w':=by
 refine (Tryz.strconv_Itoa n hn.1 hn.2 w hok.2.2).mono ?_;rintro e w' ⟨rfl,k,A,rfl⟩;exact ⟨rfl,Lib.below_grow _ _ (Nat.le_refl _) _ _⟩

def IxOk (s:ByteArray):Prop:=∀ ends ∈ [slashE,⟨#[58,44,41]⟩,⟨#[58,40,44,41]⟩,⟨#[44,41]⟩],∀ k,k≤s.size→∀ W,
 Calls Tryz.prog 150 #[.string (s.extract k s.size),.string ends] W fun e W'=>e=.returned (.int .i64 (Lib.indexAny (s.extract k s.size).data.toList ends.data.toList))∧Below W.heap.size W W'

end Go.Proofs.YtjpoljlgkgmdkaaGreatDoor
namespace Go.Cold
open Go Go.RowKit
theorem CurAt.kept {w w':World} {b k:Nat} {s:ByteArray} {bad:Bool} {row:Option Nat} (h:CurAt w b s k bad) (hg:w.grownBy w' row) (hne:some b≠row):CurAt w' b s k bad:=by
 obtain ⟨C,D,E,F,A⟩:=h;have B:=hg.block b A hne;exact ⟨(cell_heap B 0).trans C,(cell_heap B 1).trans D,(cell_heap B 2).trans E,fun j=>(frozen_heap B j).trans (F j),Nat.lt_of_lt_of_le A hg.size⟩
end Go.Cold
namespace Go.Proofs.YtjpoljlgkgmdkaaGreatDoor
open Go.RowKit Go.Cold

end Go.Proofs.YtjpoljlgkgmdkaaGreatDoor
namespace Go.Cold
open Go Go.RowKit
theorem CurAt.set_ {w:World} {b k g j:Nat} {s:ByteArray} {bad:Bool} (h:CurAt w b s k bad) (hne:g≠b) (v:Value):CurAt (w.setCell ⟨g,j,none⟩ v) b s k bad:=by
 obtain ⟨B,C,D,E,A⟩:=h;exact ⟨(cell_set_far w ⟨g,j,none⟩ v b 0 hne).trans B,(cell_set_far w ⟨g,j,none⟩ v b 1 hne).trans C,(cell_set_far w ⟨g,j,none⟩ v b 2 hne).trans D,fun i=>(World.frozen?_setCell w _ _ _).trans (E i),by simpa using A⟩
def zeroL:List Value:=[.int .i64 0,.string ByteArray.empty,.string ByteArray.empty,.int .i64 0,.int .i64 0,.int .i64 0,.slice none 0 0]
end Go.Cold
namespace Go.Proofs.YtjpoljlgkgmdkaaGreatDoor
open Go.RowKit Go.Cold
def StP (w0:World) (b gr gc:Nat) (s:ByteArray) (k0:Nat) (bad0:Bool) (w:World) (k:Nat) (bad:Bool) (cs:List Value):Prop :=
 CurAt w b s k bad∧w0.grownBy w (some b)∧BoxL w gc cs∧BoxL w gr zeroL∧(k0≤k∧k≤s.size∧w0.heap.size≤gr∧gr<gc∧b<w0.heap.size)∧(bad=false→bad0=false∧k0+1≤k)
section
variable {w0 w w':World} {b gr gc k0 k:Nat} {s:ByteArray} {bad0 bad:Bool} {cs:List Value}
theorem StP.set_ (h:StP w0 b gr gc s k0 bad0 w k bad cs) {j:Nat} (hj:j<cs.length) (v:Value):StP w0 b gr gc s k0 bad0 (w.setCell ⟨gc,j,none⟩ v) k bad (cs.set j v):=by
 obtain ⟨B,C,D,E,⟨F,G,H,I,J⟩,A⟩:=h;exact ⟨B.set_ (by omega) v,grown_set C (by omega) v,D.set_ hj v,E.far (by omega) v,⟨F,G,H,I,J⟩,A⟩
end
def InS (w:World) (lo:Nat) (A:Option Addr) (c:Nat) (xs:List Cont):Prop:=xs.length≤c∧c≤maxLen∧
 (0<xs.length→∃ bb o,A=some ⟨bb,o,none⟩∧(lo≤bb∧bb<w.heap.size)∧CsAtS w (fun x=>lo≤x∧x<w.heap.size) bb xs o)
theorem InS.set_ {w:World} {lo g j c:Nat} {A:Option Addr} {xs:List Cont} (h:InS w lo A c xs) (hg:g<lo) (v:Value):InS (w.setCell ⟨g,j,none⟩ v) lo A c xs:=by
 obtain ⟨E,F,G⟩:=h;refine ⟨E,F,fun hn=>?_⟩;obtain ⟨D,o,H,B,C⟩:=G hn;have I:(w.setCell ⟨g,j,none⟩ v).heap.size=w.heap.size:=by simp
 rw [I];exact ⟨D,o,H,B,CsAtS_mono (fun _ h=>h) (fun y o u hy hu=>(cell_set_far w ⟨g,j,none⟩ v y o (by show g≠y;have:=hy.1;omega)).trans hu) D B xs o C⟩
section
variable {s:ByteArray} {f k:Nat}
end

end Go.Proofs.YtjpoljlgkgmdkaaGreatDoor
namespace Go.Cold
open Go Go.RowKit
noncomputable def parseC (s:ByteArray):Option Cont:=if 256<s.size then none else match contP s (s.size+1) 0 with
 | some (c,k)=>if k=s.size∧badC c=false then some c else none
 | none=>none
end Go.Cold
namespace Go.Proofs.YtjpoljlgkgmdkaaGreatDoor
open Go.RowKit Go.Cold

end Go.Proofs.YtjpoljlgkgmdkaaGreatDoor
namespace Go.Cold
open Go Go.RowKit
end Go.Cold
namespace Go.Proofs.YtjpoljlgkgmdkaaGreatDoor
open Go.RowKit Go.Cold

end Go.Proofs.YtjpoljlgkgmdkaaGreatDoor
namespace Go.Cold
open Go Go.RowKit
section
variable {w0 w w':World} {B b gr gc k k':Nat} {xs:List Int} {cs:List Value}
end
end Go.Cold
namespace Go.Proofs.YtjpoljlgkgmdkaaGreatDoor
open Go.RowKit Go.Cold

end Go.Proofs.YtjpoljlgkgmdkaaGreatDoor
namespace Go.Cold
open Go Go.RowKit
end Go.Cold
namespace Go.Cold
open Go Go.RowKit
end Go.Cold
namespace Go.Cold
open Go Go.RowKit Go.Proofs.YtjpoljlgkgmdkaaGreatDoor
end Go.Cold
namespace Go.Cold
open Go Go.RowKit Go.Proofs.YtjpoljlgkgmdkaaGreatDoor
end Go.Cold
namespace Go.Cold
open Go Go.RowKit
def getA:List Attr→ByteArray→Option ByteArray
 | [],_=>none
 | a :: l,n=>if a.name=n then some a.value else getA l n
theorem getA_yes {xs:List Attr} {n:ByteArray} {k:Nat} {y:Attr} (hlt:k<xs.length) (hy:xs[k]=y) (h:y.name=n):getA (xs.drop k) n=some y.value:=by
 rw [List.drop_eq_getElem_cons hlt,hy,getA,if_pos h]
theorem getA_no {xs:List Attr} {n:ByteArray} {k:Nat} {y:Attr} (hlt:k<xs.length) (hy:xs[k]=y) (h:y.name≠n):getA (xs.drop k) n=getA (xs.drop (k+1)) n:=by
 rw [List.drop_eq_getElem_cons hlt,hy,getA,if_neg h]
theorem getA_size {xs:List Attr} {n:ByteArray} {m:Nat} (h:∀ a ∈ xs,a.value.size≤m):((getA xs n).getD ByteArray.empty).size≤m:=by
 induction xs with
 | nil=>show (0:Nat)≤m;omega
 | cons a l ih =>
  rw [getA];split
  · exact h a List.mem_cons_self
  exact ih fun b hb=>h b (List.mem_cons_of_mem _ hb)
theorem ret_get {o:Option ByteArray} {s:ByteArray} {b:Bool} (h:o.getD ByteArray.empty=s∧o.isSome=b):Ending.returned (.tuple #[.string s,.bool b])=.returned (.tuple #[.string (o.getD ByteArray.empty),.bool o.isSome]):=by rw [h.1,h.2]
end Go.Cold
namespace Go.Proofs.YtjpoljlgkgmdkaaGreatDoor
open Go.RowKit Go.Cold
theorem Get_any (A:Option Addr) (c:Nat) (xs:List Attr) (n:ByteArray) (w:World) (B:Nat) (hB:B≤w.heap.size) (hx:Sl w B A c xs) :
  Calls Tryz.prog 110 #[.slice A xs.length c,.string n] w fun e w'=>e=.returned (.tuple #[.string ((getA xs n).getD ByteArray.empty),.bool (getA xs n).isSome])∧Below w.heap.size w w':=by
 have S:=hx.1;have M:=hx.2.1;unfold maxLen at M;have Q:=Lh_ hx;have P:=Lh_ hB;have U:=Lh_ M;clear hx hB;go_enter Tryz.func110,Tryz.ntmps110;go_wp2_with fail;go_loopw [10] (fun i wr=>∃ k:Nat,k≤xs.length∧i=.int .i64 k∧Hid (Below w.heap.size w wr)∧Hid (getA xs n=getA (xs.drop k) n)) (fun i _=>xs.length - (intOf i).toNat)
 case atStart=>exact ⟨0,Nat.zero_le _,rfl,Below.refl _ _,rfl⟩
 obtain ⟨k,V,rfl,C,N⟩:=hrel;by_cases hlt:k<xs.length
 ·
  have W:(k:Int)<(xs.length:Int):=by omega
  obtain ⟨b,o,rfl,R,L,I,J⟩:=(Q.out.keep (C.out.mono P.out)).attr hlt;obtain ⟨y,hy⟩:∃ y,xs[k]'hlt=y:=⟨_,rfl⟩;rw [hy] at L I J;have O:=Lh_ hy;have G:=Lh_ hlt;clear hy L R;go_upto_region 4 with fail
  obtain ⟨w1,hw1⟩:∃ w1,wr.alloc (.cells #[.string y.name,.string y.value] 53)=w1:=⟨_,rfl⟩;have H:Below wr.heap.size wr w1:=by rw [← hw1];exact (Below.refl _ _).alloc (Nat.le_refl _) _
  have D:BoxL w1 wr.heap.size [.string y.name,.string y.value]:=box_mk hw1;try rw [hw1]
  have X:=D.1 0 _ rfl;have Y:=D.1 1 _ rfl;have E:=tb_ C H;clear hw1 H D I J;by_cases hn:y.name=n
  ·
   have T:(y.name.toList == n.toList)=true:=by rw [ba_beq];exact decide_eq_true hn
   have F:=Lh_ (show getA xs n=some y.value by rw [N.out];exact getA_yes G.out O.out hn);clear hn;go_wp2;go_ret2;exact ⟨ret_get (by rw [F.out];exact ⟨rfl,rfl⟩),E.out⟩
  have T:(y.name.toList == n.toList)=false:=by rw [ba_beq];exact decide_eq_false hn
  have F:=Lh_ (show getA xs n=getA (xs.drop (k+1)) n by rw [N.out];exact getA_no G.out O.out hn);clear hn;go_wp2;go_roundw
  case rel=>exact ⟨k+1,by omega,by go_num,E,F⟩
  simp [intOf];omega
 have K:k=xs.length:=by omega
 have F:=Lh_ (show getA xs n=none by rw [N.out,K,List.drop_length];rfl);clear N;subst K;go_wp2;go_ret2;exact ⟨ret_get (by rw [F.out];exact ⟨rfl,rfl⟩),C.out⟩
theorem RGet_any (A:Option Addr) (c:Nat) (xs:List Attr) (n:ByteArray) (w:World) (B:Nat) (hB:B≤w.heap.size) (hx:Sl w B A c xs) :
  Calls Tryz.prog 102 #[.slice A xs.length c,.string n] w fun e w'=>e=.returned (.tuple #[.string ((getA xs n).getD ByteArray.empty),.bool (getA xs n).isSome])∧w'=w:=by
 have N:=hx.1;have G:=hx.2.1;unfold maxLen at G;have L:=Lh_ hx;have P:=Lh_ G;clear hx hB;go_enter Tryz.func102,Tryz.ntmps102;go_wp2_with fail;go_loop [6] (fun i=>∃ k:Nat,k≤xs.length∧i=.int .i64 k∧Hid (getA xs n=getA (xs.drop k) n)) (fun i=>xs.length - (intOf i).toNat)
 case atStart=>exact ⟨0,Nat.zero_le _,rfl,rfl⟩
 obtain ⟨k,Q,rfl,H⟩:=hrel;by_cases hlt:k<xs.length
 ·
  have R:(k:Int)<(xs.length:Int):=by omega
  obtain ⟨b,o,rfl,M,F,I,J⟩:=L.out.attr hlt;obtain ⟨y,hy⟩:∃ y,xs[k]'hlt=y:=⟨_,rfl⟩;rw [hy] at F I J;have K:=Lh_ hy;have D:=Lh_ hlt;clear hy F M;by_cases hn:y.name=n
  ·
   have O:(y.name.toList == n.toList)=true:=by rw [ba_beq];exact decide_eq_true hn
   have C:=Lh_ (show getA xs n=some y.value by rw [H.out];exact getA_yes D.out K.out hn);clear hn;go_wp2;go_ret2;exact ⟨ret_get (by rw [C.out];exact ⟨rfl,rfl⟩),rfl⟩
  have O:(y.name.toList == n.toList)=false:=by rw [ba_beq];exact decide_eq_false hn
  have C:=Lh_ (show getA xs n=getA (xs.drop (k+1)) n by rw [H.out];exact getA_no D.out K.out hn);clear hn;go_wp2;go_round
  case rel=>exact ⟨k+1,by omega,by go_num,C⟩
  simp [intOf];omega
 have E:k=xs.length:=by omega
 have C:=Lh_ (show getA xs n=none by rw [H.out,E,List.drop_length];rfl);clear H;subst E;go_wp2;go_ret2;exact ⟨ret_get (by rw [C.out];exact ⟨rfl,rfl⟩),rfl⟩
def nmContent:ByteArray:=⟨#[99,111,110,116,101,110,116]⟩
def contD (d:Dev):ByteArray:=(getA d.attrs nmContent).getD ByteArray.empty
end Go.Proofs.YtjpoljlgkgmdkaaGreatDoor
namespace Go.Cold
open Go Go.RowKit
theorem strLt_iff {a b:ByteArray}:strLt a b=true↔cmpB a b<0:=by
 unfold strLt;constructor
 · intro h;rw [cmpB_less h];decide
 intro h;cases hl:Op.bytesLess a.toList b.toList with
 | true=>rfl
 | false =>
  by_cases he:a=b
  · rw [cmpB_eq he] at h;exact absurd h (by decide)
  rw [cmpB_more hl he] at h;exact absurd h (by decide)
theorem strLt_irr (a:ByteArray):strLt a a=false:=by
 cases h:strLt a a with
 | false=>rfl
 | true=>have:=strLt_iff.1 h;rw [cmpB_eq rfl] at this;exact absurd this (by decide)
theorem strLt_trans {a b c:ByteArray} (h1:strLt a b=true) (h2:strLt b c=true):strLt a c=true :=
 strLt_iff.2 (cmpB_total.lt a b c (strLt_iff.1 h1) (strLt_iff.1 h2))
theorem strLt_asym {a b:ByteArray} (h:strLt a b=true):strLt b a=false:=by
 cases h2:strLt b a with
 | false=>rfl
 | true=>have:=strLt_trans h h2;rw [strLt_irr] at this;cases this
theorem strLt_tri {a b:ByteArray} (h1:strLt a b=false) (h2:strLt b a=false):a=b:=by
 by_cases h:cmpB a b=0
 · exact cmpB_zero h
 exfalso
 rcases cmpB_cases a b with h3 | h3 | h3
 · rw [strLt_iff.2 (by omega)] at h1;cases h1
 · exact h h3
 have:=cmpB_total.anti a b;rw [strLt_iff.2 (by omega)] at h2;cases h2
theorem sortedA_cons {a:Attr} {l:List Attr}:sortedA (a :: l)=true↔(∀ b ∈ l,strLt a.name b.name=true)∧sortedA l=true:=by
 induction l generalizing a with
 | nil=>simp [sortedA]
 | cons b r ih =>
  rw [sortedA,Bool.and_eq_true];constructor
  ·
   rintro ⟨A,B⟩
   refine ⟨fun c hc=>?_,B⟩;rcases List.mem_cons.1 hc with rfl | hc
   · exact A
   exact strLt_trans A ((ih.1 B).1 c hc)
  rintro ⟨A,B⟩;exact ⟨A b List.mem_cons_self,B⟩
theorem sortedA_append {l r:List Attr}:sortedA (l ++ r)=true↔sortedA l=true∧sortedA r=true∧∀ a ∈ l,∀ b ∈ r,strLt a.name b.name=true:=by
 induction l with
 | nil=>simp [sortedA]
 | cons x l ih =>
  rw [List.cons_append,sortedA_cons,sortedA_cons,ih];constructor
  ·
   rintro ⟨A,C,D,B⟩
   exact ⟨⟨fun b hb=>A b (List.mem_append_left _ hb),C⟩,D,fun a ha b hb=>by
    rcases List.mem_cons.1 ha with rfl | ha
    · exact A b (List.mem_append_right _ hb)
    · exact B a ha b hb⟩
  rintro ⟨⟨A,C⟩,D,B⟩;exact ⟨fun b hb=>by
   rcases List.mem_append.1 hb with hb | hb
   · exact A b hb
   · exact B x List.mem_cons_self b hb,C,D,fun a ha b hb=>B a (List.mem_cons_of_mem _ ha) b hb⟩
def ltP (n:ByteArray) (a:Attr):Bool:=strLt a.name n
def posA (l:List Attr) (n:ByteArray):Nat:=(l.takeWhile (ltP n)).length
theorem posA_le (l:List Attr) (n:ByteArray):posA l n≤l.length:=by
 unfold posA;exact (List.takeWhile_prefix (ltP n)).length_le
theorem posA_spec {l:List Attr} (h:sortedA l=true) (n:ByteArray):(∀ (i:Nat) (a:Attr),l[i]? = some a→(strLt a.name n=true↔i<posA l n)):=by
 induction l with
 | nil=>intro i a hi;simp at hi
 | cons x r ih =>
  obtain ⟨A,B⟩:=sortedA_cons.1 h;intro i a hi;unfold posA;rw [List.takeWhile_cons];cases hx:ltP n x with
  | true =>
   simp only [if_true,List.length_cons];cases i with
   | zero=>simp at hi;subst hi;exact ⟨fun _=>by omega,fun _=>hx⟩
   | succ i =>
    simp at hi
    have:=ih B i a hi;unfold posA at this;rw [this];omega
  | false =>
   simp only [Bool.false_eq_true,if_false,List.length_nil,Nat.not_lt_zero,iff_false];intro ha;cases i with
   | zero=>simp at hi;subst hi;unfold ltP at hx;rw [hx] at ha;cases ha
   | succ i =>
    simp at hi
    have:=strLt_trans (A a (List.mem_of_getElem? hi)) ha;unfold ltP at hx;rw [hx] at this;cases this
theorem posA_unique {l:List Attr} {n:ByteArray} {k:Nat} (h:sortedA l=true) (hk:k≤l.length) (h1:∀ (i:Nat) (a:Attr),l[i]? = some a→i<k→strLt a.name n=true) (h2:∀ (i:Nat) (a:Attr),l[i]? = some a→k≤i→strLt a.name n=false):posA l n=k:=by
 have D:=posA_spec h n;have E:=posA_le l n;rcases Nat.lt_trichotomy (posA l n) k with hlt | he | hgt
 ·
  exfalso
  have C:posA l n<l.length:=by omega
  have A:=List.getElem?_eq_getElem C;have B:=h1 _ _ A hlt;have:=(D _ _ A).1 B;omega
 · exact he
 exfalso
 have C:k<l.length:=by omega
 have A:=List.getElem?_eq_getElem C;have B:=h2 _ _ A (Nat.le_refl _);have:=(D _ _ A).2 hgt;rw [B] at this;cases this
def atA (l:List Attr) (n:ByteArray):Bool:=match l[posA l n]? with | some a=>decide (a.name=n) | none=>false
theorem setGo_lt {n v:ByteArray}:∀ {A B:List Attr} {d:Bool},(∀ a ∈ A,strLt a.name n=true)→setGo n v d (A ++ B)=A ++ setGo n v d B
 | [],B,d,_=>rfl
 | a :: A,B,d,h=>by
  have ha:=h a List.mem_cons_self;have hne:a.name≠n:=fun e=>by rw [e,strLt_irr] at ha;cases ha
  rw [List.cons_append,setGo,if_neg hne,setGo_lt (fun b hb=>h b (List.mem_cons_of_mem _ hb))];have hg:geA a.name n=false:=by unfold geA;rw [ha];rfl
  rw [hg,Bool.and_false,Bool.or_false];simp
theorem setGo_gt {n v:ByteArray}:∀ {B:List Attr},(∀ b ∈ B,b.name≠n)→setGo n v true B=B
 | [],_=>rfl
 | b :: B,h=>by
  rw [setGo,if_neg (h b List.mem_cons_self),Bool.true_or,setGo_gt (fun c hc=>h c (List.mem_cons_of_mem _ hc))];simp
def putL (l:List Attr) (n v:ByteArray):List Attr :=
 l.take (posA l n) ++ ((if v.toList.isEmpty then [] else [⟨n,v⟩]) ++ l.drop (posA l n+(if atA l n then 1 else 0)))
theorem set_put {l:List Attr} (h:sortedA l=true) (n v:ByteArray):setA l n v=putL l n v:=by
 have G:=posA_spec h n;have K:=posA_le l n;unfold putL setA;obtain ⟨k,hk⟩:∃ k,posA l n=k:=⟨_,rfl⟩;have H:∀ a ∈ l.take k,strLt a.name n=true:=fun a ha=>by
  obtain ⟨i,D,rfl⟩:=List.getElem_of_mem ha;rw [List.length_take] at D;exact (G i _ (by rw [List.getElem_take];exact List.getElem?_eq_getElem (by omega))).2 (by omega)
 have E:∀ b ∈ l.drop k,strLt b.name n=false:=fun b A=>by
  obtain ⟨i,D,rfl⟩:=List.getElem_of_mem A;rw [List.length_drop] at D;cases hc:strLt (l.drop k)[i].name n with
  | false=>rfl
  | true =>
   have:=(G (k+i) _ (by rw [List.getElem_drop];exact List.getElem?_eq_getElem (by omega))).1 hc;omega
 rw [hk];have C:atA l n=(match (l.drop k).head? with | some a=>decide (a.name=n) | none=>false):=by
  unfold atA;rw [hk,List.head?_drop]
 conv=>lhs;rw [← List.take_append_drop k l]
 rw [setGo_lt H];congr 1
 have F:sortedA (l.drop k)=true:=by
  have:=h;rw [← List.take_append_drop k l] at this;exact (sortedA_append.1 this).2.1
 rw [C];rw [show l.drop (k+(if (match (l.drop k).head? with | some a=>decide (a.name=n) | none=>false)=true then 1 else 0))=(l.drop k).drop (if (match (l.drop k).head? with | some a=>decide (a.name=n) | none=>false)=true then 1 else 0) by rw [List.drop_drop]];obtain ⟨B,hBe⟩:∃ B,l.drop k=B:=⟨_,rfl⟩;rw [hBe] at E F ⊢;cases B with
 | nil=>cases hv:v.toList.isEmpty <;> simp [setGo]
 | cons b r =>
  have A:=E b List.mem_cons_self;have I:geA b.name n=true:=by unfold geA;rw [A];rfl
  have J:∀ c ∈ r,c.name≠n:=fun c hc e=>by
   have:=(sortedA_cons.1 F).1 c hc;rw [e,A] at this;cases this
  rw [setGo,I,Bool.or_true,setGo_gt J];by_cases he:b.name=n
  ·
   have:decide (b.name=n)=true:=decide_eq_true he
   simp only [List.head?_cons,this,if_true,if_pos he,List.drop_succ_cons,List.drop_zero,List.nil_append];cases hv:v.toList.isEmpty <;> simp
  have:decide (b.name=n)=false:=decide_eq_false he;simp only [List.head?_cons,this,Bool.false_eq_true,if_false,if_neg he,List.drop_zero];cases hv:v.toList.isEmpty <;> simp
theorem setA_sorted {l:List Attr} (h:sortedA l=true) (n v:ByteArray):sortedA (setA l n v)=true:=by
 rw [set_put h];have L:=posA_spec h n;unfold putL;have N:=h;rw [← List.take_append_drop (posA l n) l] at N;obtain ⟨P,E,Q⟩:=sortedA_append.1 N;have R:∀ k,sortedA ((l.drop (posA l n)).drop k)=true:=fun k=>by
  have:=E;rw [← List.take_append_drop k (l.drop (posA l n))] at this;exact (sortedA_append.1 this).2.1
 have J:∀ a ∈ l.take (posA l n),strLt a.name n=true:=fun a ha=>by
  obtain ⟨i,I,rfl⟩:=List.getElem_of_mem ha;rw [List.length_take] at I;exact (L i _ (by rw [List.getElem_take];exact List.getElem?_eq_getElem (by omega))).2 (by omega)
 have H:∀ b ∈ l.drop (posA l n+(if atA l n then 1 else 0)),strLt n b.name=true:=fun b hb=>by
  have A:b ∈ l.drop (posA l n):=by rw [← List.drop_drop] at hb;exact List.mem_of_mem_drop hb
  have K:strLt b.name n=false:=by
   obtain ⟨i,I,rfl⟩:=List.getElem_of_mem A;rw [List.length_drop] at I;cases hc:strLt (l.drop (posA l n))[i].name n with
   | false=>rfl
   | true =>
    have:=(L (posA l n+i) _ (by rw [List.getElem_drop];exact List.getElem?_eq_getElem (by omega))).1 hc;omega
  cases hc:strLt n b.name with
  | true=>rfl
  | false =>
   exfalso
   have B:=strLt_tri K hc;cases hd0:l.drop (posA l n) with
   | nil=>rw [hd0] at A;cases A
   | cons x r =>
    have D:l[posA l n]? = some x:=by
     have:(l.drop (posA l n))[0]? = some x:=by rw [hd0];rfl
     rw [List.getElem?_drop,Nat.add_zero] at this;exact this
    rw [hd0] at E;by_cases hxn:x.name=n
    ·
     have G:atA l n=true:=by unfold atA;rw [D];exact decide_eq_true hxn
     rw [G,if_pos rfl,← List.drop_drop,hd0,List.drop_succ_cons,List.drop_zero] at hb;have:=(sortedA_cons.1 E).1 b hb;rw [B,hxn,strLt_irr] at this;cases this
    rw [hd0] at A;rcases List.mem_cons.1 A with rfl | hm
    · exact hxn B
    have F:=(sortedA_cons.1 E).1 b hm;rw [B] at F;have M:strLt x.name n=false:=by
     cases hq:strLt x.name n with
     | false=>rfl
     | true=>have:=(L _ _ D).1 hq;omega
    rw [M] at F;cases F
 have O:sortedA (l.drop (posA l n+(if atA l n then 1 else 0)))=true:=by rw [← List.drop_drop];exact R _
 have C:∀ b ∈ l.drop (posA l n+(if atA l n then 1 else 0)),b ∈ l.drop (posA l n):=fun b hb=>by rw [← List.drop_drop] at hb;exact List.mem_of_mem_drop hb
 rw [sortedA_append];cases hv:v.toList.isEmpty with
 | true =>
  simp only [if_true,List.nil_append];exact ⟨P,O,fun a ha b hb=>Q a ha b (C b hb)⟩
 | false =>
  simp only [Bool.false_eq_true,if_false,List.singleton_append];refine ⟨P,sortedA_cons.2 ⟨H,O⟩,fun a ha b hb=>?_⟩;rcases List.mem_cons.1 hb with rfl | hb
  · exact J a ha
  exact Q a ha b (C b hb)
end Go.Cold
namespace Go.Cold
open Go Go.RowKit
theorem getA_none {l:List Attr} {n:ByteArray}:getA l n=none↔∀ a ∈ l,a.name≠n:=by
 induction l with
 | nil=>simp [getA]
 | cons a r ih =>
  rw [getA];by_cases h:a.name=n
  · rw [if_pos h];simp [h]
  rw [if_neg h,ih];simp [h]
theorem getA_mem {l:List Attr} {n v:ByteArray} (h:getA l n=some v):(⟨n,v⟩:Attr) ∈ l:=by
 induction l with
 | nil=>cases h
 | cons a r ih =>
  rw [getA] at h;by_cases he:a.name=n
  ·
   rw [if_pos he] at h
   have:a=⟨n,v⟩:=by cases a;simp_all
   rw [this];exact List.mem_cons_self
  rw [if_neg he] at h;exact List.mem_cons_of_mem _ (ih h)
theorem getA_of {l:List Attr} (h:sortedA l=true) {a:Attr} (ha:a ∈ l):getA l a.name=some a.value:=by
 induction l with
 | nil=>cases ha
 | cons b r ih =>
  obtain ⟨A,B⟩:=sortedA_cons.1 h;rw [getA];rcases List.mem_cons.1 ha with rfl | ha
  · rw [if_pos rfl]
  rw [if_neg (fun e=>by have:=A a ha;rw [e,strLt_irr] at this;cases this)];exact ih B ha
theorem getA_append {l r:List Attr} {n:ByteArray}:getA (l ++ r) n=(getA l n).or (getA r n):=by
 induction l with
 | nil=>simp [getA]
 | cons a l ih =>
  rw [List.cons_append,getA,getA];by_cases h:a.name=n
  · rw [if_pos h,if_pos h];rfl
  rw [if_neg h,if_neg h,ih]
theorem sorted_ext:∀ {l r:List Attr},sortedA l=true→sortedA r=true→(∀ n,getA l n=getA r n)→l=r
 | [],[],_,_,_=>rfl
 | [],b :: r,_,_,h=>by
  have:=h b.name;rw [getA,getA,if_pos rfl] at this;cases this
 | a :: l,[],_,_,h=>by
  have:=h a.name;rw [getA,getA,if_pos rfl] at this;cases this
 | a :: l,b :: r,hl,hr,h=>by
  obtain ⟨l1,l2⟩:=sortedA_cons.1 hl;obtain ⟨r1,r2⟩:=sortedA_cons.1 hr;have ha:(⟨a.name,a.value⟩:Attr) ∈ b :: r:=getA_mem (by rw [← h,getA,if_pos rfl]);have hb:(⟨b.name,b.value⟩:Attr) ∈ a :: l:=getA_mem (by rw [h,getA,if_pos rfl]);have hab:a=b:=by
   rcases List.mem_cons.1 ha with h1 | h1
   · cases a;cases b;simpa using h1
   rcases List.mem_cons.1 hb with h2 | h2
   · cases a;cases b;simpa using h2.symm
   have D:=r1 _ h1;have E:=l1 _ h2;have F:strLt b.name a.name=true:=D;have A:strLt a.name b.name=true:=E;rw [strLt_asym F] at A;cases A
  subst hab;congr 1
  refine sorted_ext l2 r2 fun n=>?_
  by_cases hn:a.name=n
  ·
   have B:getA l n=none:=getA_none.2 fun c hc e=>by
    have:=l1 c hc;rw [e,← hn,strLt_irr] at this;cases this
   have C:getA r n=none:=getA_none.2 fun c hc e=>by
    have:=r1 c hc;rw [e,← hn,strLt_irr] at this;cases this
   rw [B,C]
  have:=h n;rw [getA,getA,if_neg hn,if_neg hn] at this;exact this
def valO (v:ByteArray):Option ByteArray:=if v.toList.isEmpty then none else some v
theorem getA_set {l:List Attr} (h:sortedA l=true) (k v n:ByteArray):getA (setA l k v) n=if n=k then valO v else getA l n:=by
 have N:=posA_spec h k;have Q:=posA_le l k;rw [set_put h];unfold putL;have K:=h;rw [← List.take_append_drop (posA l k) l] at K;obtain ⟨R,J,S⟩:=sortedA_append.1 K;have G:∀ a ∈ l.take (posA l k),a.name≠k:=fun a ha e=>by
  obtain ⟨i,P,rfl⟩:=List.getElem_of_mem ha;rw [List.length_take] at P;have M:=(N i (l.take (posA l k))[i] (by rw [List.getElem_take];exact List.getElem?_eq_getElem (by omega))).2 (by omega);rw [e,strLt_irr] at M;cases M
 -- what is dropped bears the name, and nothing behind it does
 have F:∀ n,n≠k→getA (l.drop (posA l k+(if atA l k then 1 else 0))) n=getA (l.drop (posA l k)) n:=fun n hn=>by
  cases A:atA l k with
  | false=>simp
  | true =>
   unfold atA at A;cases hx:l[posA l k]? with
   | none=>rw [hx] at A;cases A
   | some x =>
    rw [hx] at A;have C:x.name=k:=of_decide_eq_true A;have D:=(List.getElem?_eq_some_iff.1 hx).1;have I:=(List.getElem?_eq_some_iff.1 hx).2;rw [if_pos rfl,List.drop_eq_getElem_cons D,I,getA,if_neg (by rw [C];exact fun e=>hn e.symm)]
 have H:∀ b ∈ l.drop (posA l k+(if atA l k then 1 else 0)),b.name≠k:=fun b hb e=>by
  have B:b ∈ l.drop (posA l k):=by rw [← List.drop_drop] at hb;exact List.mem_of_mem_drop hb
  cases hd0:l.drop (posA l k) with
  | nil=>rw [hd0] at B;cases B
  | cons x r =>
   have E:l[posA l k]? = some x:=by
    have:(l.drop (posA l k))[0]? = some x:=by rw [hd0];rfl
    rw [List.getElem?_drop,Nat.add_zero] at this;exact this
   rw [hd0] at J;by_cases C:x.name=k
   ·
    have A:atA l k=true:=by unfold atA;rw [E];exact decide_eq_true C
    rw [A,if_pos rfl,← List.drop_drop,hd0,List.drop_succ_cons,List.drop_zero] at hb;have:=(sortedA_cons.1 J).1 b hb;rw [e,C,strLt_irr] at this;cases this
   rw [hd0] at B;rcases List.mem_cons.1 B with rfl | hm
   · exact C e
   have L:=(sortedA_cons.1 J).1 b hm;rw [e] at L;have:=(N _ _ E).1 L;omega
 rw [getA_append,getA_append];by_cases hn:n=k
 ·
  subst hn
  rw [if_pos rfl,getA_none.2 G,getA_none.2 H];unfold valO;cases hv:v.toList.isEmpty <;> simp [getA]
 rw [if_neg hn,F n hn];have O:getA (if v.toList.isEmpty=true then [] else [(⟨k,v⟩:Attr)]) n=none:=by
  cases hv:v.toList.isEmpty
  · simp only [Bool.false_eq_true,if_false];rw [getA,if_neg (fun e=>hn e.symm)];rfl
  rfl
 rw [O,Option.none_or,← getA_append,List.take_append_drop]
def putAll (ps:List (ByteArray × ByteArray)):List Attr:=ps.foldl (fun l p=>setA l p.1 p.2) []
theorem foldl_sorted:∀ (ps:List (ByteArray × ByteArray)) {l:List Attr},sortedA l=true→sortedA (ps.foldl (fun l p=>setA l p.1 p.2) l)=true
 | [],_,h=>h
 | p :: ps,l,h=>foldl_sorted ps (setA_sorted h p.1 p.2)
theorem putAll_sorted (ps:List (ByteArray × ByteArray)):sortedA (putAll ps)=true:=foldl_sorted ps rfl
theorem foldl_mem:∀ (ps:List (ByteArray × ByteArray)) {l:List Attr} {a:Attr},a ∈ ps.foldl (fun l p=>setA l p.1 p.2) l→a ∈ l∨(a.name,a.value) ∈ ps
 | [],_,_,h=>.inl h
 | p :: ps,l,a,h=>by
  rcases foldl_mem ps h with h | h
  ·
   rcases setA_mem l p.1 p.2 a h with h | h
   · exact .inr (by rw [h];exact List.mem_cons_self)
   exact .inl h
  exact .inr (List.mem_cons_of_mem _ h)
theorem putAll_mem {ps:List (ByteArray × ByteArray)} {a:Attr} (h:a ∈ putAll ps):(a.name,a.value) ∈ ps:=by
 rcases foldl_mem ps h with h | h
 · cases h
 exact h
theorem putAll_len (ps:List (ByteArray × ByteArray)):(putAll ps).length≤ps.length:=by
 have:∀ (ps:List (ByteArray × ByteArray)) (l:List Attr),(ps.foldl (fun l p=>setA l p.1 p.2) l).length≤l.length+ps.length:=by
  intro ps;induction ps with
  | nil=>intro l;simp
  | cons p ps ih =>
   intro l;have A:=ih (setA l p.1 p.2);have B:=setA_len l p.1 p.2;rw [List.foldl_cons,List.length_cons];omega
 have h:=this ps [];rw [List.length_nil,Nat.zero_add] at h;exact h
theorem foldl_value:∀ (ps:List (ByteArray × ByteArray)) {l:List Attr},(∀ a ∈ l,a.value.toList.isEmpty=false)→sortedA l=true→∀ a ∈ ps.foldl (fun l p=>setA l p.1 p.2) l,a.value.toList.isEmpty=false
 | [],_,h,_=>h
 | p :: ps,l,h,hs=>foldl_value ps (fun a ha=>by
   have hg:=getA_of (setA_sorted hs p.1 p.2) ha;rw [getA_set hs] at hg;by_cases he:a.name=p.1
   ·
    rw [if_pos he] at hg
    unfold valO at hg;split at hg
    · cases hg
    rename_i hv
    rw [← Option.some.inj hg];simpa using hv
   ·
    rw [if_neg he] at hg
    exact h _ (getA_mem hg)) (setA_sorted hs p.1 p.2)
theorem putAll_value (ps:List (ByteArray × ByteArray)):∀ a ∈ putAll ps,a.value.toList.isEmpty=false:=foldl_value ps (fun a ha=>by cases ha) rfl
end Go.Cold
namespace Go.Cold
open Go Go.RowKit Go.Proofs.YtjpoljlgkgmdkaaGreatDoor
def kDevname:ByteArray:=⟨#[68,69,86,78,65,77,69]⟩
def kDevpath:ByteArray:=⟨#[68,69,86,80,65,84,72]⟩
def kDriver:ByteArray:=⟨#[68,82,73,86,69,82]⟩
def kInterface:ByteArray:=⟨#[73,78,84,69,82,70,65,67,69]⟩
def kModalias:ByteArray:=⟨#[77,79,68,65,76,73,65,83]⟩
def kNumber:ByteArray:=⟨#[78,85,77,66,69,82]⟩
def kSubsystem:ByteArray:=⟨#[83,85,66,83,89,83,84,69,77]⟩
def kFsLabel:ByteArray:=⟨#[73,68,95,70,83,95,76,65,66,69,76]⟩
def kFsUsage:ByteArray:=⟨#[73,68,95,70,83,95,85,83,65,71,69]⟩
def kFsUuid:ByteArray:=⟨#[73,68,95,70,83,95,85,85,73,68]⟩
def tFile:ByteArray:=⟨#[102,105,108,101,115,121,115,116,101,109]⟩
def tRaid:ByteArray:=⟨#[114,97,105,100]⟩
def tCrypto:ByteArray:=⟨#[99,114,121,112,116,111]⟩
def tMember:ByteArray:=⟨#[109,101,109,98,101,114]⟩
def tTable:ByteArray:=⟨#[116,97,98,108,101]⟩
def baseKeys:List ByteArray:=[kDevname,kDevpath,kDriver,kInterface,kModalias,kNumber,kSubsystem]
def itoaT (n:Int):ByteArray:=⟨(Lib.itoa n).toArray⟩
def baseP (o:ByteArray) (d:Dev):List (ByteArray × ByteArray) :=
 [(kDevpath,o),(kSubsystem,d.sub),(kDriver,d.drv),(kModalias,d.ali)] ++ ((if (nodeD d).isSome then [(kDevname,nodeV d),(kNumber,itoaT d.num)] else []) ++ (if d.kind=4 then [(kInterface,d.orig)] else []))
def baseL (L:List Dev) (n:Int):List Attr:=match findD L n with | none=>[] | some d=>putAll (baseP (strF L n) d)
theorem base_keys {o:ByteArray} {d:Dev} {p:ByteArray × ByteArray} (h:p ∈ baseP o d):p.1 ∈ baseKeys:=by
 unfold baseP at h;rw [List.mem_append,List.mem_append] at h;rcases h with h | h | h
 ·
  simp only [List.mem_cons,List.not_mem_nil,or_false] at h
  rcases h with rfl | rfl | rfl | rfl <;> simp [baseKeys]
 ·
  split at h
  ·
   simp only [List.mem_cons,List.not_mem_nil,or_false] at h
   rcases h with rfl | rfl <;> simp [baseKeys]
  cases h
 split at h
 ·
  simp only [List.mem_cons,List.not_mem_nil,or_false] at h
  rcases h with rfl;simp [baseKeys]
 cases h
theorem base_mem {L:List Dev} {n:Int} {a:Attr} (h:a ∈ baseL L n):a.name ∈ baseKeys:=by
 unfold baseL at h;cases hf:findD L n with
 | none=>rw [hf] at h;cases h
 | some d=>rw [hf] at h;exact base_keys (putAll_mem h)
theorem base_sorted (L:List Dev) (n:Int):sortedA (baseL L n)=true:=by
 unfold baseL;cases findD L n with
 | none=>rfl
 | some d=>exact putAll_sorted _
def cutT (s:ByteArray):ByteArray:=s.extract 0 (min s.size 256)
def usageT (k:Int):ByteArray:=if k=1 then tFile else if k=2 then tRaid else if k=3 then tCrypto else if k=4 then tMember else tTable
def contA (c:Cont):List Attr:=if c.kind=0 then [] else putAll [(kFsLabel,c.label),(kFsUsage,usageT c.kind),(kFsUuid,c.id)]
noncomputable def contAt (d:Dev):List Attr:=if d.kind=2 then (match parseC (contD d) with | some c=>contA c | none=>[]) else []
noncomputable def contL (L:List Dev) (n:Int):List Attr:=contAt ((findD L n).getD zeroD)
end Go.Cold
namespace Go.Cold
open Go Go.RowKit Go.Proofs.YtjpoljlgkgmdkaaGreatDoor
theorem cut_data (s:ByteArray):(cutT s).data.toList=s.data.toList.take 256:=by
 unfold cutT;rw [ByteArray.data_extract,Array.toList_extract,List.extract_eq_take_drop,List.drop_zero,Nat.sub_zero];rw [← ba_size];by_cases h:s.data.toList.length≤256
 · rw [Nat.min_eq_left h,List.take_length,List.take_of_length_le h]
 rw [Nat.min_eq_right (by omega)]
theorem cut_small {s:ByteArray} (h:s.size≤256):cutT s=s:=by
 apply ba_ext
 rw [cut_data,List.take_of_length_le (by rw [ba_size];exact h)]
theorem cut_size (s:ByteArray):(cutT s).size=min 256 s.size:=by rw [← ba_size,cut_data,List.length_take,ba_size]
-- what may be printed
theorem valid_print {s:ByteArray} (h:validB s=true):printB s=true:=by
 unfold validB at h;simp only [Bool.and_eq_true] at h;have C:∀ x:UInt8,nameL.contains x=true→printP x=true:=by
  have A:∀ n:Fin 256,nameL.contains (UInt8.ofNat n.val)=true→printP (UInt8.ofNat n.val)=true:=by decide +kernel
  intro x;have:=A ⟨x.toNat,UInt8.toNat_lt x⟩;simpa using this
 have B:=h.2.2.2;unfold printB;rw [List.all_eq_true];intro x hx;refine C x ?_;unfold inB at B;rw [List.all_eq_true] at B;exact B x hx
theorem valid_text {s:ByteArray} (h:validB s=true):textB s=true:=by
 have:=valid_size h;unfold textB;rw [valid_print h,Bool.true_and];exact decide_eq_true (by omega)
theorem slash_print:∀ {xs:List ByteArray},xs.all validB=true→(xs.flatMap fun x=>47 :: x.data.toList).all printP=true∧(xs.flatMap fun x=>47 :: x.data.toList).length≤xs.length * 33
 | [],_=>⟨rfl,Nat.le_refl _⟩
 | x :: xs,h=>by
  rw [List.all_cons,Bool.and_eq_true] at h;obtain ⟨i1,i2⟩:=slash_print h.2;have hs:=valid_size h.1;have hp:=valid_print h.1;unfold printB at hp;rw [List.flatMap_cons];refine ⟨by rw [List.all_append,List.all_cons,hp,i1];decide,?_⟩;rw [List.length_append,List.length_cons,List.length_cons,ba_size];omega
theorem pathS_print {xs:List ByteArray} (h:xs.all validB=true):printB (pathS xs)=true∧(pathS xs).size≤xs.length * 33:=by
 obtain ⟨A,B⟩:=slash_print h;have C:(pathS xs).data.toList=xs.flatMap fun x=>47 :: x.data.toList:=by
  unfold pathS;rw [fold_data];rfl
 unfold printB;rw [← ba_size,C];exact ⟨A,B⟩
theorem str_text {L:List Dev} (h:VT L) {d:Dev} (hd:d ∈ L):textB (strF L d.idx)=true:=by
 have C:=h.dep d hd;obtain ⟨A,B⟩:=pathS_print (org_valid h d.idx);rw [strF_eq];unfold textB;rw [A,Bool.true_and];exact decide_eq_true (by omega)
theorem node_print {s:ByteArray} (h:validB s=true):textB (nodeS s)=true:=by
 have A:=valid_print h;have C:=valid_size h;unfold textB;rw [Bool.and_eq_true];constructor
 ·
  unfold printB at A ⊢
  unfold nodeS;rw [List.all_eq_true] at A ⊢;intro x hx;simp only [List.mem_map] at hx;obtain ⟨y,B,rfl⟩:=hx;split
  · decide
  exact A y B
 refine decide_eq_true ?_;unfold nodeS;rw [← ba_size];simp only [List.length_map];rw [ba_size];omega
end Go.Cold
namespace Go.Cold
open Go Go.RowKit Go.Proofs.YtjpoljlgkgmdkaaGreatDoor
theorem digits_print (n:Nat):∀ x ∈ Lib.decDigits n,printP x=true:=by
 have A:∀ n:Fin 10,printP (UInt8.ofNat (48+n.val))=true:=by decide +kernel
 induction n using Nat.strongRecOn with
 | ind n ih =>
  intro x hx;rw [Lib.decDigits] at hx;split at hx
  ·
   rename_i h
   rw [List.mem_singleton] at hx;rw [hx];exact A ⟨n,h⟩
  rw [List.mem_append,List.mem_singleton] at hx;rcases hx with hx | hx
  · exact ih (n / 10) (by omega) x hx
  rw [hx];exact A ⟨n % 10,by omega⟩
theorem itoa_text {n:Int} (h:okI n):textB (itoaT n)=true:=by
 have A:=Lib.itoa_length_le n h.1 h.2;unfold textB printB itoaT;rw [Bool.and_eq_true];constructor
 ·
  show (Lib.itoa n).all printP=true
  rw [List.all_eq_true];intro x hx;unfold Lib.itoa at hx;split at hx
  ·
   rcases List.mem_cons.1 hx with rfl | hx
   · decide
   exact digits_print _ x hx
  exact digits_print _ x hx
 refine decide_eq_true ?_;rw [← ba_size];show (Lib.itoa n).length≤256
 omega
def goodA (a:Attr):Prop:=keyB a.name=true∧textB a.value=true∧a.value.toList.isEmpty=false
theorem keys_key:∀ k ∈ baseKeys,keyB k=true:=by decide +kernel
theorem base_good {L:List Dev} (h:VT L) {n:Int} {a:Attr} (ha:a ∈ baseL L n):goodA a:=by
 refine ⟨keys_key _ (base_mem ha),?_,?_⟩
 ·
  unfold baseL at ha
  cases hf:findD L n with
  | none=>rw [hf] at ha;cases ha
  | some d =>
   rw [hf] at ha;have C:=putAll_value _ a ha;have A:=putAll_mem ha;obtain ⟨D,I⟩:=find_some hf;obtain ⟨J,E,G,F,H⟩:=check_names (h.chk d D);unfold baseP at A;rw [List.mem_append,List.mem_append] at A;rcases A with A | A | A
   ·
    simp only [List.mem_cons,List.not_mem_nil,or_false,Prod.mk.injEq] at A
    rcases A with ⟨-,hv⟩ | ⟨-,hv⟩ | ⟨-,hv⟩ | ⟨-,hv⟩
    · rw [hv,← I];exact str_text h D
    · rw [hv];exact valid_text G
    ·
     rw [hv] at C ⊢
     rw [C,Bool.false_or] at F;exact valid_text F
    rw [hv];exact H
   ·
    split at A
    ·
     rename_i hnd
     simp only [List.mem_cons,List.not_mem_nil,or_false,Prod.mk.injEq] at A;rcases A with ⟨-,hv⟩ | ⟨-,hv⟩
     ·
      rw [hv]
      unfold nodeV nodeD at *;split
      · exact node_print E
      rename_i hk
      rw [if_neg hk] at hnd;cases hnd
     rw [hv];refine itoa_text ?_;have B:=h.chk d D;unfold checkD at B;split at B
     · cases B
     split at B
     ·
      split at B
      · cases B
      split at B
      · cases B
      split at B
      · cases B
      rename_i hq
      unfold okI;have:1≤d.num∧d.num≤1073741824:=by
       refine ⟨Int.not_lt.1 fun h1=>hq (.inl ⟨hnd,.inl h1⟩),Int.not_lt.1 fun h1=>hq (.inl ⟨hnd,.inr h1⟩)⟩
      omega
     cases B
    cases A
   split at A
   ·
    simp only [List.mem_cons,List.not_mem_nil,or_false,Prod.mk.injEq] at A
    rw [A.2];exact valid_text E
   cases A
 unfold baseL at ha;cases hf:findD L n with
 | none=>rw [hf] at ha;cases ha
 | some d=>rw [hf] at ha;exact putAll_value _ a ha
-- a change of driver and name
end Go.Cold
namespace Go.Cold
open Go Go.RowKit
def rowA (l:List Attr):List Value:=(l.map attrCells).flatten
theorem rowA_len:∀ l:List Attr,(rowA l).length=l.length * 2
 | []=>rfl
 | a :: r=>by
  have:=rowA_len r;unfold rowA at this ⊢;rw [List.map_cons,List.flatten_cons,List.length_append,this,List.length_cons];show 2+_=_;omega
theorem rowA_cells {w:World} {S:Nat→Prop} {A:Option Addr} {c:Nat} {l:List Attr} (h:SlS w S A c l) (h0:0<l.length):∃ b o,A=some ⟨b,o,none⟩∧S b∧∀ j u,(rowA l)[j]? = some u→w.cell? ⟨b,o+j,none⟩=some u:=by
 obtain ⟨b,o,e,F,B,C,E,D⟩:=h.rows h0;refine ⟨b,o,e,F,?_⟩;have:B=l.map attrCells:=by
  apply List.ext_getElem
  · rw [C,List.length_map]
  intro i h1 h2;have G:i<l.length:=by rw [← C];exact h1
  have:=E i l[i] B[i] (List.getElem?_eq_getElem G) (List.getElem?_eq_getElem h1);rw [List.getElem_map];exact this.1
 rw [this] at D;exact D
theorem own_attrs {F:Nat→Prop} {w:World} {base:Nat} {T:TypeId} {v:Value} {l:List Attr} (h:w.ownsRow base T 2 v l.length (rowA l)) (hs:∀ a ∈ l,a.name.size≤maxLen∧a.value.size≤maxLen):OwnsS F w base T v l:=by
 refine ⟨l.map attrCells,h,by rw [List.length_map],fun i x cs hx hcs=>?_⟩;rw [List.getElem?_map,hx] at hcs;cases hcs
 exact ⟨rfl,hs x (List.mem_of_getElem? hx)⟩
theorem attr_okS {w:World} {S:Nat→Prop} {A:Option Addr} {c:Nat} {l:List Attr} (h:SlS w S A c l):∀ a ∈ l,a.name.size≤maxLen∧a.value.size≤maxLen:=fun a ha=>by
 have h0:0<l.length:=List.length_pos_of_mem ha;obtain ⟨b,o,e,hb,h4⟩:=h.2.2 h0;obtain ⟨i,hi,rfl⟩:=List.getElem_of_mem ha;obtain ⟨cs,h5,-⟩:=h4 i _ (List.getElem?_eq_getElem hi);exact h5.2
theorem run_app_full {P:Program} {F S:Nat→Prop} {w:World} {base bytes:Nat} {T TS:TypeId} (E:ElemT P (Rep.size Attr) T TS bytes) (ty:TypeId) (A:Option Addr) (l:List Attr) (h:SlS w S A l.length l) (hA:A=none→l=[]) (g:Nat) (y:Attr)
  (hc:∀ (j:Nat) u,(attrCells y)[j]? = some u→w.cell? ⟨g,j,none⟩=some u) (hy:y.name.size≤maxLen∧y.value.size≤maxLen)
  (h1:l.length+1≤maxLen) (h2:(l.length+1) * bytes≤140737488355328) (hb:base≤w.heap.size) :
  ∃ v' w',(Builtin.append_ #[TS,TS] ty #[.slice A l.length l.length,.slice (some ⟨g,0,none⟩) 1 1]).run P w=.ok v' w'∧OwnsS F w' base T v' (l ++ [y])∧Below w.heap.size w w'∧(∀ k,v'.ownBlock=some k→w.heap.size≤k):=by
 obtain ⟨i,z,V,X,G,R,K⟩:=E.info;have U:Rep.size Attr=2:=rfl;rw [U] at G K;cases A with
 | none =>
  obtain rfl:=hA rfl;obtain ⟨v',w',Q,W,H,I⟩:=run_app1 (F:=F) (base:=base) E ty (.slice none 0 0) [] (OwnsS.nil_ F w base T) g y (attrCells y) hc ⟨rfl,hy⟩ h1 h2 hb;refine ⟨v',w',Q,W,⟨H.os,H.tape,H.output,H.size,fun k hk=>H.block k hk (by simp [Value.ownBlock])⟩,fun k hk=>?_⟩;rcases I k hk with h | h
  · simp [Value.ownBlock] at h
  exact h
 | some a =>
  have B:∃ b,a=b∧∀ j u,(rowA l)[j]? = some u→w.cell? (b.add j)=some u:=by
   refine ⟨a,rfl,fun j u hu=>?_⟩;by_cases h0:0<l.length
   ·
    obtain ⟨b,o,e,-,M⟩:=rowA_cells h h0
    obtain rfl:=Option.some.inj e;rw [add_mk];exact M j u hu
   have:l=[]:=List.length_eq_zero_iff.1 (by omega);rw [this] at hu;simp [rowA] at hu
  obtain ⟨_,rfl,D⟩:=B;have L:=h1;unfold maxLen at L;have Q:=run_append_grow (P:=P) w TS ty T i z E.sl V X a l.length l.length (rowA l) (by rw [rowA_len,G]) D ⟨g,0,none⟩ 1 1 (attrCells y) (by rw [G];rfl) (fun j v hv=>by rw [add_mk,Nat.zero_add];exact hc j v hv) (by omega) (by omega) (growslice_fits (by omega) (by rw [R];exact h2));have O:=grownCap_ge w (l.length+1) l.length T;have N:grownCap w (l.length+1) l.length T≤maxLen:=grownCap_le_maxLen w (l.length+1) l.length T h1;refine ⟨_,_,Q,?_,(show Below w.heap.size w w.drew from below_drewN_self w w.heap.size 1).alloc (Nat.le_refl _) _,fun k hk=>by simp [Value.ownBlock] at hk;omega⟩;have C:(l ++ [y]).length=l.length+1:=by rw [List.length_append];rfl
  have J:rowA l ++ attrCells y=rowA (l ++ [y]):=by unfold rowA;simp
  refine own_attrs ?_ (fun b hb2=>?_)
  ·
   rw [C]
   refine ⟨by rw [rowA_len,C],.inr ⟨w.heap.size,_,_,rfl,hb,heap_alloc_new w.drew _,O,N,?_,?_⟩⟩
   ·
    simp only [Array.size_append,List.size_toArray,size_zeroCells,K,rowA_len]
    have:(attrCells y).length=2:=rfl;omega
   simp only [Array.toList_append,List.append_assoc];rw [← List.append_assoc,J,show (l.length+1) * 2=(rowA (l ++ [y])).length by rw [rowA_len,C]];exact List.take_left
  rcases List.mem_append.1 hb2 with hb2 | hb2
  · exact attr_okS h b hb2
  rw [List.mem_singleton] at hb2;rw [hb2];exact hy
def BsR (l:List Attr) (n:ByteArray) (i j:Nat):Prop:=i≤j∧j≤l.length∧(∀ (k:Nat) (a:Attr),l[k]? = some a→k<i→strLt a.name n=true)∧∀ (k:Nat) (a:Attr),l[k]? = some a→j≤k→strLt a.name n=false
theorem BsR.start (l:List Attr) (n:ByteArray):BsR l n 0 l.length:=⟨Nat.zero_le _,Nat.le_refl _,fun k a _ h=>by omega,fun k a hk h=>by have:=(List.getElem?_eq_some_iff.1 hk).1;omega⟩
theorem BsR.left {l:List Attr} {n:ByteArray} {i j h:Nat} {a:Attr} (hr:BsR l n i j) (hs:sortedA l=true) (h1:i≤h) (h2:h<j) (ha:l[h]? = some a) (hl:strLt a.name n=true):BsR l n (h+1) j:=by
 refine ⟨by omega,hr.2.1,fun k b hk hlt=>?_,hr.2.2.2⟩;have A:=posA_spec hs n;exact (A k b hk).2 (by have:=(A h a ha).1 hl;omega)
theorem BsR.right {l:List Attr} {n:ByteArray} {i j h:Nat} {a:Attr} (hr:BsR l n i j) (hs:sortedA l=true) (h1:i≤h) (h2:h<j) (ha:l[h]? = some a) (hl:strLt a.name n=false):BsR l n i h:=by
 refine ⟨h1,by have:=hr.2.1;omega,hr.2.2.1,fun k b hk hle=>?_⟩;have A:=posA_spec hs n;cases hc:strLt b.name n with
 | false=>rfl
 | true =>
  have B:=(A k b hk).1 hc;have:=(A h a ha).2 (by omega);rw [hl] at this;cases this
theorem BsR.done {l:List Attr} {n:ByteArray} {i j:Nat} (hr:BsR l n i j) (hs:sortedA l=true) (h:¬ i<j):i=posA l n:=by
 obtain ⟨C,D,A,B⟩:=hr;exact (posA_unique hs (by omega) A (fun k a hk hle=>B k a hk (by omega))).symm
theorem atA_some {l:List Attr} {n:ByteArray} {a:Attr} (h:l[posA l n]? = some a):atA l n=decide (a.name=n):=by unfold atA;rw [h]
theorem atA_end {l:List Attr} {n:ByteArray} (h:¬ posA l n<l.length):atA l n=false:=by
 unfold atA;rw [List.getElem?_eq_none (by omega)]
theorem atA_lt {l:List Attr} {n:ByteArray} (h:atA l n=true):posA l n<l.length:=Decidable.byContradiction fun hc=>by rw [atA_end hc] at h;cases h
theorem sl_head {w:World} {B c:Nat} {A:Option Addr} {l:List Attr} (h:Sl w B A c l) {k:Nat} (hk:k≤l.length):Sl w B A k (l.take k):=by
 refine ⟨by rw [List.length_take];omega,by have:=h.2.1;have:=h.1;omega,fun hn=>?_⟩;rw [List.length_take] at hn;obtain ⟨b',o',e,D,C⟩:=h.2.2 (by omega);refine ⟨b',o',e,D,fun i x hx=>?_⟩;rw [List.getElem?_take] at hx;split at hx
 · exact C i x hx
 cases hx
end Go.Cold
namespace Go.Cold
open Go Go.RowKit Go.Proofs.YtjpoljlgkgmdkaaGreatDoor
theorem ret_bs {l:List Attr} {n:ByteArray} {i:Int} {b:Bool} (h:i=(posA l n:Int)∧atA l n=b):Ending.returned (.tuple #[.int .i64 i,.bool b])=.returned (.tuple #[.int .i64 (posA l n:Int),.bool (atA l n)]):=by rw [h.1,h.2]
theorem bs_rel (h:Nat):Value.int .i64 ((h:Int)+1)=Value.int .i64 ((h+1:Nat):Int):=by rw [show ((h:Int)+1)=((h+1:Nat):Int) by omega]
theorem bs_meas {i j h:Nat} (h1:i≤h) (h2:h<j):(intOf (Value.int .i64 (j:Int))).toNat - (intOf (Value.int .i64 ((h:Int)+1))).toNat<(intOf (Value.int .i64 (j:Int))).toNat - (intOf (Value.int .i64 (i:Int))).toNat:=by
 simp only [intOf];omega
theorem cmp_lt {a n:ByteArray} {z:Int} (h:cmpB a n=z):strLt a n=decide (z<0):=by
 rw [Bool.eq_iff_iff,strLt_iff,h,decide_eq_true_eq]
theorem cmp_eq {a n:ByteArray} {z:Int} (h:cmpB a n=z):decide (a=n)=(z == 0):=by
 rw [Bool.eq_iff_iff,decide_eq_true_eq,beq_iff_eq,← h];exact ⟨cmpB_eq,cmpB_zero⟩
end Go.Cold
namespace Go.Proofs.YtjpoljlgkgmdkaaGreatDoor
open Go.RowKit Go.Cold
theorem set1_any (d:Attr) (n:ByteArray) (w:World):Calls Tryz.prog 144 #[.agg #[.string d.name,.string d.value],.string n] w fun e w'=>e=.returned (.int .i64 (cmpB d.name n))∧Below w.heap.size w w':=by
 go_enter Tryz.func144,Tryz.ntmps144;go_upto_region 1 with fail
 obtain ⟨I,E,A,D,B⟩:=bx_ w [.string d.name,.string d.value] 53;try simp only [E]
 have C:=Lh_ A;clear E A;try rw [← D.out]
 have H:=B.out.1 0 _ rfl;go_wp2_with fail;refine (stringsCompare_any d.name n _).mono ?_;rintro e w9 ⟨rfl,F⟩;rw [F];clear F w9;obtain ⟨z,hz⟩:∃ z,cmpB d.name n=z:=⟨_,rfl⟩;rw [hz];have G:=Lh_ hz;clear hz;go_wp2;go_ret;exact ⟨by rw [G.out];rfl,C.out⟩
set_option maxRecDepth 100000 in
set_option maxHeartbeats 4000000 in
theorem BSearch_any (A:Option Addr) (c:Nat) (xs:List Attr) (n:ByteArray) (w:World) (B:Nat) (hB:B≤w.heap.size) (hx:Sl w B A c xs) (hs:sortedA xs=true) (hl:xs.length≤4611686018427387904) :
  Calls Tryz.prog 143 #[.slice A xs.length c,.string n,.func (.func 144) #[] #[]] w fun e w'=>e=.returned (.tuple #[.int .i64 (posA xs n:Int),.bool (atA xs n)])∧Below w.heap.size w w':=by
 have M0:=hx.1;have A0:=hx.2.1;unfold maxLen at A0;have J0:=enters_of Tryz.func144 (by kernel_rfl) rfl;have HX:=Lh_ hx;have HB:=Lh_ hB;have S:=Lh_ hs;clear hx hB hs;go_enter Tryz.func143,Tryz.ntmps143;go_wp2_with fail;go_loopw [9,10] (fun u v wr=>∃ i j:Nat,u=.int .i64 (i:Int)∧v=.int .i64 (j:Int)∧Hid (BsR xs n i j)∧Hid (Below w.heap.size w wr)) (fun u v _=>(intOf v).toNat - (intOf u).toNat)
 case atStart=>exact ⟨0,xs.length,rfl,rfl,Lh_ (BsR.start xs n),Lh_ (Below.refl _ _)⟩
 obtain ⟨i,j,rfl,rfl,M,D⟩:=hrel;have K0:=M.out.1;have L0:=M.out.2.1;by_cases hlt:i<j
 ·
  have i1:(i:Int)<(j:Int):=by omega
  obtain ⟨h,hh⟩:∃ h,(i+j) / 2=h:=⟨_,rfl⟩;have T:i≤h:=by omega
  have U:h<j:=by omega
  have V:h<xs.length:=by omega
  have i3:(h:Int)<(xs.length:Int):=by omega
  have N:((i:Int)+(j:Int)) / 2=(h:Int):=by omega
  have D0:IntKind.i64.wrap ((i:Int)+(j:Int))=((i+j:Nat):Int):=by rw [IntKind.wrap_i64];omega
  have X:wrap64 ((i:Int)+(j:Int))=((i+j:Nat):Int):=by unfold wrap64;omega
  have E0:IntKind.u64.wrap ((i+j:Nat):Int)=((i+j:Nat):Int):=by simp only [IntKind.wrap,IntKind.signed,IntKind.bits];first | omega | (simp;omega)
  have F0:IntKind.i64.wrap (h:Int)=(h:Int):=by rw [IntKind.wrap_i64];omega
  obtain ⟨b,o,rfl,Y,I,F,G⟩:=(HX.out.keep (D.out.mono HB.out)).attr V;have C:xs[h]? = some xs[h]:=List.getElem?_eq_getElem V;obtain ⟨y,hy⟩:∃ y,xs[h]'V=y:=⟨_,rfl⟩;rw [hy] at I F G C;have O:=Lh_ C;clear hy I Y C;go_upto_region 5 with fail
  go_wp2_with fail;refine Calls.mono (R:=fun e W'=>e=.returned (.int .i64 (cmpB y.name n))∧Below wr.heap.size wr W') ?_ ?_
  · first | exact set1_any y n wr | simpa using set1_any y n wr
  rintro e w1 ⟨rfl,E⟩;have J:=tb_ D E;clear E F G;obtain ⟨z,hz⟩:∃ z,cmpB y.name n=z:=⟨_,rfl⟩;rw [hz];have K:=Lh_ (cmp_lt hz);clear hz;by_cases hz0:z<0
  ·
   have G0:IntKind.i64.wrap ((h:Int)+1)=((h+1:Nat):Int):=by rw [IntKind.wrap_i64];omega
   have Z:wrap64 ((h:Int)+1)=((h+1:Nat):Int):=by unfold wrap64;omega
   have Q:=Lh_ (M.out.left S.out T U O.out (by rw [K.out];exact decide_eq_true hz0));go_wp2;go_roundw
   case rel=>exact ⟨h+1,j,bs_rel h,rfl,Q,J⟩
   exact bs_meas T U
  have Q:=Lh_ (M.out.right S.out T U O.out (by rw [K.out];exact decide_eq_false hz0));go_wp2;go_roundw
  case rel=>exact ⟨i,h,rfl,by simp only [N],Q,J⟩
  simp only [intOf,N,Int.toNat_natCast];omega
 have i1:¬ (i:Int)<(j:Int):=by omega
 have H:=M.out.done S.out hlt;have L:=Lh_ H;by_cases hin:i<xs.length
 ·
  have i2:(i:Int)<(xs.length:Int):=by omega
  obtain ⟨b,o,rfl,Y,I,F,G⟩:=(HX.out.keep (D.out.mono HB.out)).attr hin;have C:xs[i]? = some xs[i]:=List.getElem?_eq_getElem hin;obtain ⟨y,hy⟩:∃ y,xs[i]'hin=y:=⟨_,rfl⟩;rw [hy] at I F G C;rw [H] at C;have O:=Lh_ (atA_some C);clear hy I Y C H;go_wp2_with fail;refine Calls.mono (R:=fun e W'=>e=.returned (.int .i64 (cmpB y.name n))∧Below wr.heap.size wr W') ?_ ?_
  · first | exact set1_any y n wr | simpa using set1_any y n wr
  rintro e w1 ⟨rfl,E⟩;have J:=tb_ D E;clear E F G;obtain ⟨z,hz⟩:∃ z,cmpB y.name n=z:=⟨_,rfl⟩;rw [hz];have P:=Lh_ (cmp_eq hz);clear hz;obtain ⟨q,hq⟩:∃ q,(z == 0)=q:=⟨_,rfl⟩;have HQ:=Lh_ hq;go_wp2;go_ret2;exact ⟨ret_bs ⟨by rw [L.out],by rw [O.out,P.out,HQ.out]⟩,J.out⟩
 have i2:¬ (i:Int)<(xs.length:Int):=by omega
 have HE:=Lh_ (atA_end (l:=xs) (n:=n) (by rw [← H];exact hin));clear H;go_wp2;go_ret2;exact ⟨ret_bs ⟨by rw [L.out],HE.out⟩,D.out⟩
end Go.Proofs.YtjpoljlgkgmdkaaGreatDoor
namespace Go.Cold
open Go Go.RowKit Go.Proofs.YtjpoljlgkgmdkaaGreatDoor
theorem own_grown {w:World} {T:TypeId} {k cap:Nat} {cs:Array Value} (hk:k≤cap) (hcap:cap≤maxLen) (hcs:cs.size=cap * 2):OwnsS (α:=Attr) (fun _=>False) (w.drew.alloc (.cells cs T)) w.heap.size T (.slice (some ⟨w.heap.size,0,none⟩) 0 cap) []:=by
 refine ⟨[],⟨rfl,.inr ⟨w.heap.size,cap,cs,rfl,Nat.le_refl _,heap_alloc_new w.drew _,Nat.zero_le _,hcap,hcs,by simp⟩⟩,rfl,fun i x cs h=>by simp at h⟩
end Go.Cold
namespace Go.Proofs.YtjpoljlgkgmdkaaGreatDoor
open Go.RowKit Go.Cold
theorem wpList_appZ {P:Program} {w:World} {ops:Array Oper} {rest:List Oper} {o:Oper} {a:Act} {Q:Exit→Act→World→Prop} {TS TN:TypeId} {R:Value→World→Prop} (hgd:o.guard=none) (s x:Operand) (ho:o.op=.call { callee:=.builtin .append,args:=#[s,x],argTypes:=#[TS,TN] }) (v u:Value) (hs:a.eval s=v) (hx:a.eval x=u)
  (hrun:∃ v' w',(Builtin.append_ #[TS,TN] o.type #[v,u]).run P w=.ok v' w'∧R v' w') (hK:∀ v' w',R v' w'→wpList P ops Q rest (a.put o.dst v') w'):wpList P ops Q (o :: rest) a w:=by
 refine wpList_plain hgd fun K hK'=>?_
 obtain ⟨v',w',B,A⟩:=hrun;unfold Oper.wp execOp;simp only [ho,resolve,invoke,builtin,Sem.run_bind,Sem.run_pure,Result.andThen_ok,List.map_toArray,List.map_cons,List.map_nil,hs,hx,B];exact hK' _ _ (hK _ _ A)
set_option maxRecDepth 100000 in
theorem Grow_any (n:Nat) (w:World) (hn:n≤1000000000) :
  Calls Tryz.prog 175 #[.slice none 0 0,.int .i64 (n:Int)] w fun e w'=>Below w.heap.size w w'∧∃ v,e=.returned v∧OwnsS (α:=Attr) (fun _=>False) w' w.heap.size 53 v []:=by
 obtain ⟨O,Q,G,I,H,F,J⟩:=E_attr.info;have B:0<n→∃ v' w',(Builtin.append_ #[26,3] 26 #[.slice none 0 0,.int .i64 (n:Int)]).run Tryz.prog w=.ok v' w'∧∃ A K,v'=.slice (some ⟨w.heap.size,0,none⟩) n A∧w'=w.drew.alloc (.cells K 53)∧n≤A∧A≤maxLen∧K.size=A * 2:=fun h0=>by
  have N:=Lib.run_append_nil_zeros (P:=Tryz.prog) w 26 3 26 53 O Q .i64 .i64 Tryz.underlying26 Tryz.underlying3 G I n h0 (by rw [H];show 0<2;omega) (by omega) (by rw [F];omega);have M:=grownCap_ge w n 0 53;refine ⟨_,_,N,_,_,rfl,rfl,M,grownCap_le_maxLen w n 0 _ (by unfold maxLen;omega),?_⟩;rw [Array.size_append,size_zeroCells,size_zeroCells,J,show Rep.size Attr=2 from rfl];omega
 have E:=Lh_ B;clear B G I H F J;go_enter Tryz.func175,Tryz.ntmps175;have w1:IntKind.i64.wrap ((n:Int) - 0)=(n:Int):=by rw [IntKind.wrap_i64];omega
 have U:wrap64 ((n:Int) - 0)=(n:Int):=by unfold wrap64;omega
 have V:IntKind.i64.wrap ((0:Int) - 0)=0:=by decide
 have W:wrap64 ((n:Int))=(n:Int):=by unfold wrap64;omega
 have T:¬ (n:Int)<0:=by omega
 by_cases h0:n=0
 ·
  subst h0;go_wp2;go_ret;exact ⟨Below.refl _ _,_,rfl,OwnsS.nil_ _ _ _ _⟩
 have R:(0:Int)<(n:Int):=by omega
 have S:(n:Int) > 0:=by omega
 go_wp2_with (at_builtin;go_must (refine wpList_appZ rfl _ _ rfl (.slice none 0 0) (.int .i64 (n:Int)) rfl rfl (E.out (by omega)) ?_);rintro v1 w1' ⟨A,K,rfl,rfl,C,D,L⟩);go_ret;exact ⟨(show Below w.heap.size w w.drew from below_drewN_self w w.heap.size 1).alloc (Nat.le_refl _) _,_,rfl,own_grown C D L⟩
end Go.Proofs.YtjpoljlgkgmdkaaGreatDoor
namespace Go.Cold
open Go Go.RowKit Go.Proofs.YtjpoljlgkgmdkaaGreatDoor
theorem own_anyF {F F':Nat→Prop} {w:World} {base:Nat} {T:TypeId} {v:Value} {l:List Attr} (h:OwnsS F w base T v l):OwnsS F' w base T v l:=by
 obtain ⟨A,B,C,D⟩:=h;exact ⟨A,B,C,fun i x cs hx hcs=>D i x cs hx hcs⟩
theorem cell_old31 {w w':World} {b o:Nat} {v:Value} (h:w.cell? ⟨b,o,none⟩=some v) (hb:Below w.heap.size w w'):w'.cell? ⟨b,o,none⟩=some v:=(hb.cell (p:=⟨b,o,none⟩) (block_lt_of_cell h)).trans h
theorem srcA {w wr:World} {A:Option Addr} {c:Nat} {l:List Attr} {v:Value} (h:Sl w w.heap.size A c l∨l=[]) (hb:Below w.heap.size w wr) (hv:∀ q,v.ownBlock=some q→w.heap.size≤q∧q<wr.heap.size):SlS wr (fun b=>(fun _=>True) b∧b<wr.heap.size∧v.ownBlock≠some b) A c l∨l=[]:=by
 rcases h with h | h
 ·
  left
  refine (SlS_iff.1 (h.keep hb)).mono (fun b hlt=>⟨trivial,Nat.lt_of_lt_of_le hlt hb.size,fun e=>?_⟩) (fun _ _ _ _ hu=>hu);have B:b<w.heap.size:=hlt;have:=(hv b e).1;omega
 exact .inr h
end Go.Cold
namespace Go.Proofs.YtjpoljlgkgmdkaaGreatDoor
open Go.RowKit Go.Cold
set_option maxRecDepth 100000 in
set_option maxHeartbeats 4000000 in
theorem Concat_any (b:Nat) (A0 A1:Option Addr) (c0_ c1_:Nat) (xs ys:List Attr) (w:World) (c0:w.cell? ⟨b,0,none⟩=some (.slice A0 xs.length c0_)) (c1:w.cell? ⟨b,1,none⟩=some (.slice A1 ys.length c1_)) (hx:Sl w w.heap.size A0 c0_ xs∨xs=[]) (hy:Sl w w.heap.size A1 c1_ ys∨ys=[]) (hl:xs.length≤1000000∧ys.length≤1000000) :
  Calls Tryz.prog 145 #[.slice (some ⟨b,0,none⟩) 2 2] w fun e w'=>Below w.heap.size w w'∧∃ v,e=.returned v∧OwnsS (fun _=>False) w' w.heap.size 53 v (xs ++ ys):=by
 have W:=Lh_ hx;have X:=Lh_ hy;have N:=Lh_ c0;have O:=Lh_ c1;have M:=Lh_ hl;clear hx hy;go_enter Tryz.func145,Tryz.ntmps145;go_wp2_with fail;go_loop [3,11] (fun s i=>(i=.int .i64 0∧s=.int .i64 0)∨(i=.int .i64 1∧s=.int .i64 (xs.length:Int))∨(i=.int .i64 2∧s=.int .i64 ((xs.length+ys.length:Nat):Int))) (fun _ i=>2 - (intOf i).toNat)
 case atStart=>exact .inl ⟨rfl,rfl⟩
 have Y:=M.out.1;have Z:=M.out.2;have w1:IntKind.i64.wrap ((0:Int)+(xs.length:Int))=(xs.length:Int):=by rw [IntKind.wrap_i64];omega
 have S:IntKind.i64.wrap ((xs.length:Int)+(ys.length:Int))=((xs.length+ys.length:Nat):Int):=by rw [IntKind.wrap_i64];omega
 have w3:wrap64 ((xs.length:Int))=(xs.length:Int):=by unfold wrap64;omega
 have w4:wrap64 ((xs.length:Int)+(ys.length:Int))=((xs.length+ys.length:Nat):Int):=by unfold wrap64;omega
 have n1:¬ (xs.length:Int)<0:=by omega
 have n2:¬ ((xs.length+ys.length:Nat):Int)<0:=by omega
 have n3:¬ (xs.length:Int)+(ys.length:Int)<0:=by omega
 rcases hrel with ⟨rfl,rfl⟩ | ⟨rfl,rfl⟩ | ⟨rfl,rfl⟩
 ·
  go_wp2;go_round
  case rel=>exact .inr (.inl ⟨rfl,by first | rfl | go_num⟩)
  simp [intOf]
 ·
  go_wp2;go_round
  case rel=>exact .inr (.inr ⟨rfl,by first | rfl | go_num⟩)
  simp [intOf]
 go_wp2_with fail;refine (Grow_any (xs.length+ys.length) _ (by omega)).mono ?_;rintro e wa ⟨Q,v0,rfl,H⟩;have P:=Lh_ (show OwnsS (fun _=>True) wa w.heap.size 53 v0 ([]:List Attr) from own_anyF H);have J:=Lh_ Q;clear H Q w1 S w3 w4 n1 n2 n3 c0 c1;have c0:=cell_old31 N.out J.out;have c1:=cell_old31 O.out J.out;have T:=Lh_ c0;have U:=Lh_ c1;go_wp2_with fail;go_loopw [6,27] (fun v i wr=>∃ (k:Nat) (B:List Attr),i=.int .i64 (k:Int)∧Hid ((k=0∧B=[])∨(k=1∧B=xs)∨(k=2∧B=xs ++ ys))∧Hid (OwnsS (fun _=>True) wr w.heap.size 53 v B)∧Hid (Below w.heap.size w wr)) (fun _ i _=>2 - (intOf i).toNat)
 case atStart=>exact ⟨0,[],rfl,Lh_ (.inl ⟨rfl,rfl⟩),P,J⟩
 clear c0 c1;obtain ⟨k,B,rfl,V,R,A⟩:=hrel;have c0:=cell_old31 N.out A.out;have c1:=cell_old31 O.out A.out;have G:=Lh_ (R.out.lt);rcases V.out with ⟨rfl,rfl⟩ | ⟨rfl,rfl⟩ | ⟨rfl,rfl⟩
 ·
  have C:=run_appL E_attr 26 u6 [] R.out A0 c0_ xs (srcA W.out A.out G.out) (by have:=M.out;unfold maxLen;first | omega | (simp;omega)) (by have:=M.out;first | omega | (simp;omega)) A.out.size;have I:=Lh_ C;clear C;go_wp2_with (at_builtin;go_must (refine wpList_app rfl _ _ rfl u6 (.slice A0 xs.length c0_) rfl rfl I.out ?_);rintro v2 S ⟨E,D,L⟩;have F:=Lh_ E;have K:=Lh_ (A.out.grown D A.out.size (fun q hq=>(G.out q hq).1));clear E D L c0 c1);go_roundw
  case rel=>exact ⟨1,xs,rfl,Lh_ (.inr (.inl ⟨rfl,rfl⟩)),by first | exact F | simpa using F,K⟩
  simp [intOf]
 ·
  have C:=run_appL E_attr 26 u6 B R.out A1 c1_ ys (srcA X.out A.out G.out) (by have:=M.out;unfold maxLen;first | omega | (simp;omega)) (by have:=M.out;first | omega | (simp;omega)) A.out.size;have I:=Lh_ C;clear C;go_wp2_with (at_builtin;go_must (refine wpList_app rfl _ _ rfl u6 (.slice A1 ys.length c1_) rfl rfl I.out ?_);rintro v2 S ⟨E,D,L⟩;have F:=Lh_ E;have K:=Lh_ (A.out.grown D A.out.size (fun q hq=>(G.out q hq).1));clear E D L c0 c1);go_roundw
  case rel=>exact ⟨2,B ++ ys,rfl,Lh_ (.inr (.inr ⟨rfl,rfl⟩)),F,K⟩
  simp [intOf]
 go_wp2;go_ret;exact ⟨A.out,_,rfl,own_anyF R.out⟩
end Go.Proofs.YtjpoljlgkgmdkaaGreatDoor
namespace Go.Cold
open Go Go.RowKit Go.Proofs.YtjpoljlgkgmdkaaGreatDoor
theorem tailS {w:World} {B B' c i:Nat} {A Ad:Option Addr} {l:List Attr} (hA:(if c=i then A else A.map (·.add (i * 2)))=Ad) (h:Sl w B A c l) (hB:B≤B'):Sl w B' Ad (c - i) (l.drop i)∨l.drop i=[]:=by
 rcases (SlS_iff.1 h).drop_ (m:=i) with h1 | h1
 ·
  left
  rw [show Rep.size Attr=2 from rfl,hA] at h1;exact (SlS_iff.2 h1).more hB
 exact .inr h1
theorem tailS1 {w:World} {B c i:Nat} {A Ad:Option Addr} {l:List Attr} (hA:(if c=1 then A else A.map (·.add (1 * 2)))=Ad) (h:Sl w B A c (l.drop i)∨l.drop i=[]):Sl w B Ad (c - 1) (l.drop (i+1))∨l.drop (i+1)=[]:=by
 rcases h with h | h
 ·
  have:=tailS hA h (Nat.le_refl _)
  rw [List.drop_drop] at this;exact this
 right
 rw [← List.drop_drop,h];rfl
end Go.Cold
namespace Go.Proofs.YtjpoljlgkgmdkaaGreatDoor
open Go.RowKit Go.Cold
set_option maxRecDepth 100000 in
set_option maxHeartbeats 4000000 in
theorem DSet_any (A:Option Addr) (c:Nat) (xs:List Attr) (n x:ByteArray) (w:World) (B:Nat) (hB:B≤w.heap.size) (hx:Sl w B A c xs) (hs:sortedA xs=true) (hl:xs.length≤1000) (h1:n.size≤maxLen) (h2:x.size≤maxLen) :
  Calls Tryz.prog 113 #[.slice A xs.length c,.string n,.string x] w fun e w'=>Below w.heap.size w w'∧∃ v,e=.returned v∧OwnsS (fun _=>False) w' w.heap.size 53 v (setA xs n x):=by
 have O1:=hx.1;have G1:=hx.2.1;unfold maxLen at G1;have HX:=Lh_ hx;have HB:=Lh_ hB;have HS:=Lh_ hs;have HL:=Lh_ hl;have H1:=Lh_ h1;have H2:=Lh_ h2;clear hx hB hs h1 h2;go_enter Tryz.func113,Tryz.ntmps113;go_wp2_with fail;refine (BSearch_any A c xs n _ B HB.out HX.out HS.out (by have:=HL.out;omega)).mono ?_;rintro e w1 ⟨rfl,Y0⟩;have E1:=Lh_ Y0;obtain ⟨i,hi⟩:∃ i,posA xs n=i:=⟨_,rfl⟩;have A1:=posA_le xs n;obtain ⟨q,hq⟩:∃ q,atA xs n=q:=⟨_,rfl⟩;rw [hi] at A1 ⊢;rw [hq];have V:=Lh_ (show setA xs n x=xs.take i ++ ((if x.toList.isEmpty then [] else [⟨n,x⟩]) ++ xs.drop (i+(if q then 1 else 0))) by rw [set_put HS.out];unfold putL;rw [hi,hq]);have D1:=Lh_ (show q=true→i<xs.length from fun h=>by rw [← hi];exact atA_lt (by rw [hq];exact h));clear Y0 hi hq;have m1:(i:Int)≤(xs.length:Int):=by omega
 have m2:(i:Int)≤(c:Int):=by omega
 have m3:i≤c:=by omega
 go_upto_region 2 with fail
 refine wp_region_held_drew (S:=fun w'=>w'=w') (by kernel_rfl) rfl (fun hS0=>?_);obtain ⟨wd,hwd⟩:∃ z,World.drew w1=z:=⟨_,rfl⟩;rw [hwd] at hS0 ⊢;have Z0:Below w1.heap.size w1 wd:=by rw [← hwd];exact below_drewN_self _ _ 1
 clear hwd hS0;have C:=tb_ E1 Z0;clear Z0;refine tk1 0 17 (.slice A xs.length c) rfl (fun w' hS=>by go_simp) (by trivial) ?_;try simp only [Act.put,sA_,sB_,sC_]
 refine tk1 1 18 (.int .i64 i) rfl (fun w' hS=>by go_simp) (by trivial) ?_;try simp only [Act.put,sA_,sB_,sC_]
 refine tk1 2 19 (.int .i64 i) rfl (fun w' hS=>by go_simp) (by trivial) ?_;try simp only [Act.put,sA_,sB_,sC_]
 refine tk1 3 20 (.slice A i i) rfl (fun w' hS=>by (rw [← sliced_take (A:=A) (c:=i) (m:=i) (s:=2)];go_simp)) (by trivial) ?_;try simp only [Act.put,sA_,sB_,sC_]
 refine tk1 4 21 (.slice A xs.length c) rfl (fun w' hS=>by go_simp) (by trivial) ?_;try simp only [Act.put,sA_,sB_,sC_]
 refine tk1 5 22 (.int .i64 i) rfl (fun w' hS=>by go_simp) (by trivial) ?_;try simp only [Act.put,sA_,sB_,sC_]
 obtain ⟨Ad,hAd⟩:∃ z,(if c=i then A else A.map (·.add (i * 2)))=z:=⟨_,rfl⟩;have V0:=Lh_ hAd;clear hAd;refine tk1 6 23 (.slice Ad (xs.length - i) (c - i)) rfl (fun w' hS=>by (rw [show (Value.slice Ad (xs.length - i) (c - i))=sliced A i xs.length c 2 by unfold sliced;rw [V0.out]];go_simp)) (by trivial) ?_;try simp only [Act.put,sA_,sB_,sC_]
 refine tk1 7 9 (.slice A i i) rfl (fun w' hS=>by go_simp) (by trivial) ?_;try simp only [Act.put,sA_,sB_,sC_]
 refine tk1 8 10 (.slice Ad (xs.length - i) (c - i)) rfl (fun w' hS=>by go_simp) (by trivial) ?_;try simp only [Act.put,sA_,sB_,sC_]
 refine wpAnyH_done (by kernel_rfl) ?_ _;have X0:=Lh_ (show Sl wd wd.heap.size Ad (c - i) (xs.drop i)∨xs.drop i=[] from tailS V0.out (HX.out.keep (C.out.mono HB.out)) (Nat.le_trans HB.out C.out.size));have W:=Lh_ (show Sl wd wd.heap.size A i (xs.take i) from (sl_head (HX.out.keep (C.out.mono HB.out)) A1).more (Nat.le_trans HB.out C.out.size));have I:=Lh_ (show (xs.drop i).length=xs.length - i∧(xs.take i).length=i from ⟨List.length_drop,by rw [List.length_take];omega⟩);cases q
 ·
  have HT:=X0;have H:=Lh_ (show (xs.drop i).length=xs.length - i from I.out.1);have I0:=Lh_ (show xs.drop (i+(if false=true then 1 else 0))=xs.drop i by simp);have L:=Lh_ (show (xs.drop i).length≤1000000∧(xs.take i).length≤1000000 by have:=HL.out;have:=I.out;constructor;(rw [H.out];omega);omega);by_cases hv:x.toList.isEmpty=true
  ·
   have R0:(x.toList == (⟨#[]⟩:ByteArray).toList)=true:=by rw [show (⟨#[]⟩:ByteArray).toList=[] by decide +kernel];cases hq:x.toList with | nil=>rfl | cons a r=>rw [hq] at hv;cases hv
   have S0:(x.toList == [])=true:=by cases hq:x.toList with | nil=>rfl | cons a r=>rw [hq] at hv;cases hv
   have HV:=Lh_ hv;clear hv;obtain ⟨wa,hwa⟩:∃ z,wd.alloc (.cells #[.slice A i i,.slice Ad (xs.length - i) (c - i)] 26)=z:=⟨_,rfl⟩;have N:Below wd.heap.size wd wa:=by rw [← hwa];exact (Below.refl _ _).alloc (Nat.le_refl _) _
   have O:BoxL wa wd.heap.size [.slice A i i,.slice Ad (xs.length - i) (c - i)]:=box_mk hwa;have D:=Lh_ N;have R:=Lh_ O;clear N O;go_wp2_with fail;refine (Concat_any wd.heap.size A Ad i ((c - i)) (xs.take i) (xs.drop i) _ (by rw [I.out.2];exact R.out.1 0 _ rfl) (by rw [H.out];exact R.out.1 1 _ rfl) (.inl (W.out.next (Nat.le_refl _) D.out)) (HT.out.imp (fun h=>h.next (Nat.le_refl _) D.out) id) ⟨L.out.2,L.out.1⟩).mono ?_;rintro e wb ⟨M,v,rfl,E⟩;have U:=tb_ D M;have K:=Lh_ (E.low (show wd.heap.size≤wa.heap.size from D.out.size));clear M E hwa;have HF:=Lh_ (C.out.trans (U.out.mono C.out.size));go_wp2;go_ret;exact ⟨HF.out,_,rfl,by rw [V.out,if_pos HV.out,List.nil_append,I0.out];exact K.out.low C.out.size⟩
  have Q:x.toList.isEmpty=false:=by simpa using hv
  have R0:(x.toList == (⟨#[]⟩:ByteArray).toList)=false:=by rw [show (⟨#[]⟩:ByteArray).toList=[] by decide +kernel];cases hq:x.toList with | nil=>rw [hq] at Q;cases Q | cons a r=>rfl
  have S0:(x.toList == [])=false:=by cases hq:x.toList with | nil=>rw [hq] at Q;cases Q | cons a r=>rfl
  have HV:=Lh_ hv;clear hv Q;obtain ⟨wa,hwa⟩:∃ z,wd.alloc (.cells #[.string n,.string x] 53)=z:=⟨_,rfl⟩;have N:Below wd.heap.size wd wa:=by rw [← hwa];exact (Below.refl _ _).alloc (Nat.le_refl _) _
  have O:BoxL wa wd.heap.size [.string n,.string x]:=box_mk hwa;have D:=Lh_ N;have R:=Lh_ O;clear N O;have P:=run_app_full (F:=fun _=>True) (base:=wa.heap.size) E_attr 26 A (xs.take i) (w:=wa) (S:=fun b=>b<wa.heap.size) (by rw [I.out.2];exact SlS_iff.1 (W.out.next (Nat.le_refl _) D.out)) (fun hA=>by have h:=W.out.2.2;rw [hA] at h;rcases Nat.eq_zero_or_pos (xs.take i).length with h0 | h0;exact List.length_eq_zero_iff.1 h0;obtain ⟨b,o,e,-⟩:=h h0;cases e) wd.heap.size ⟨n,x⟩ (fun j u hu=>R.out.1 j u hu) ⟨H1.out,H2.out⟩ (by have:=L.out.2;unfold maxLen;omega) (by have:=L.out.2;omega) (Nat.le_refl _);rw [I.out.2] at P;have B0:=Lh_ P;clear P;go_wp2_with (at_builtin;go_must (refine wpList_app rfl _ _ rfl (.slice A i i) (.slice (some ⟨wd.heap.size,0,none⟩) 1 1) rfl rfl B0.out ?_);rintro v3 w3 ⟨F0,D0,Q0⟩;have L0:=Lh_ F0;have X:=Lh_ D0;clear F0 D0 Q0 hwa;obtain ⟨A3,c3,T,G0⟩:=L0.out.sl;have G:(xs.take i ++ [(⟨n,x⟩:Attr)]).length=i+1:=(by rw [List.length_append,I.out.2];rfl);rw [G] at T;subst T;have M0:=Lh_ G0;have A0:=Lh_ G;clear G0 G;obtain ⟨w4,hw4⟩:∃ z,w3.alloc (.cells #[.slice A3 (i+1) c3,.slice Ad (xs.length - i) (c - i)] 26)=z:=⟨_,rfl⟩;have E0:Below w3.heap.size w3 w4:=(by rw [← hw4];exact (Below.refl _ _).alloc (Nat.le_refl _) _);have H0:BoxL w4 w3.heap.size [.slice A3 (i+1) c3,.slice Ad (xs.length - i) (c - i)]:=box_mk hw4;have Z:=Lh_ E0;have C0:=Lh_ H0;clear E0 H0);have Y:=Lh_ (X.out.trans (Z.out.mono X.out.size));have J:=Lh_ (D.out.trans (Y.out.mono D.out.size));refine (Concat_any w3.heap.size A3 Ad c3 ((c - i)) (xs.take i ++ [⟨n,x⟩]) (xs.drop i) _ (by rw [A0.out];exact C0.out.1 0 _ rfl) (by rw [H.out];exact C0.out.1 1 _ rfl) (.inl (M0.out.next (Nat.le_refl _) Z.out)) (HT.out.imp (fun h=>h.next (Nat.le_refl _) J.out) id) ⟨by rw [List.length_append,List.length_singleton];have:=I.out.2;have:=HL.out;omega,L.out.1⟩).mono ?_;rintro e wb ⟨M,v,rfl,E⟩;have U:=tb_ J M;have K:=Lh_ (E.low (show wd.heap.size≤w4.heap.size from J.out.size));clear M E hw4;have HF:=Lh_ (C.out.trans (U.out.mono C.out.size));go_wp2;go_ret;exact ⟨HF.out,_,rfl,by rw [V.out,if_neg HV.out,I0.out,← List.append_assoc];exact K.out.low C.out.size⟩
 have J1:=D1.out rfl;have k1:(1:Int)≤((xs.length - i:Nat):Int):=by omega
 have k2:(1:Int)≤((c - i:Nat):Int):=by omega
 have k3:1≤c - i:=by omega
 have k4:1≤xs.length - i:=by omega
 have H:=Lh_ (show (xs.drop (i+1)).length=xs.length - i - 1 by rw [List.length_drop];omega);have I0:=Lh_ (show xs.drop (i+(if true=true then 1 else 0))=xs.drop (i+1) by simp);by_cases hc1:c - i=1
 ·
  have HT:=Lh_ (show Sl wd wd.heap.size Ad 0 (xs.drop (i+1))∨xs.drop (i+1)=[] from .inr (List.drop_eq_nil_of_le (by omega)));go_upto_region 5 with fail
  clear k1 k2 k3 k4;have L:=Lh_ (show (xs.drop (i+1)).length≤1000000∧(xs.take i).length≤1000000 by have:=HL.out;have:=I.out;constructor;(rw [H.out];omega);omega);by_cases hv:x.toList.isEmpty=true
  ·
   have R0:(x.toList == (⟨#[]⟩:ByteArray).toList)=true:=by rw [show (⟨#[]⟩:ByteArray).toList=[] by decide +kernel];cases hq:x.toList with | nil=>rfl | cons a r=>rw [hq] at hv;cases hv
   have S0:(x.toList == [])=true:=by cases hq:x.toList with | nil=>rfl | cons a r=>rw [hq] at hv;cases hv
   have HV:=Lh_ hv;clear hv;obtain ⟨wa,hwa⟩:∃ z,wd.alloc (.cells #[.slice A i i,.slice Ad (xs.length - i - 1) 0] 26)=z:=⟨_,rfl⟩;have N:Below wd.heap.size wd wa:=by rw [← hwa];exact (Below.refl _ _).alloc (Nat.le_refl _) _
   have O:BoxL wa wd.heap.size [.slice A i i,.slice Ad (xs.length - i - 1) 0]:=box_mk hwa;have D:=Lh_ N;have R:=Lh_ O;clear N O;go_wp2_with fail;refine (Concat_any wd.heap.size A Ad i (0) (xs.take i) (xs.drop (i+1)) _ (by rw [I.out.2];exact R.out.1 0 _ rfl) (by rw [H.out];exact R.out.1 1 _ rfl) (.inl (W.out.next (Nat.le_refl _) D.out)) (HT.out.imp (fun h=>h.next (Nat.le_refl _) D.out) id) ⟨L.out.2,L.out.1⟩).mono ?_;rintro e wb ⟨M,v,rfl,E⟩;have U:=tb_ D M;have K:=Lh_ (E.low (show wd.heap.size≤wa.heap.size from D.out.size));clear M E hwa;have HF:=Lh_ (C.out.trans (U.out.mono C.out.size));go_wp2;go_ret;exact ⟨HF.out,_,rfl,by rw [V.out,if_pos HV.out,List.nil_append,I0.out];exact K.out.low C.out.size⟩
  have Q:x.toList.isEmpty=false:=by simpa using hv
  have R0:(x.toList == (⟨#[]⟩:ByteArray).toList)=false:=by rw [show (⟨#[]⟩:ByteArray).toList=[] by decide +kernel];cases hq:x.toList with | nil=>rw [hq] at Q;cases Q | cons a r=>rfl
  have S0:(x.toList == [])=false:=by cases hq:x.toList with | nil=>rw [hq] at Q;cases Q | cons a r=>rfl
  have HV:=Lh_ hv;clear hv Q;obtain ⟨wa,hwa⟩:∃ z,wd.alloc (.cells #[.string n,.string x] 53)=z:=⟨_,rfl⟩;have N:Below wd.heap.size wd wa:=by rw [← hwa];exact (Below.refl _ _).alloc (Nat.le_refl _) _
  have O:BoxL wa wd.heap.size [.string n,.string x]:=box_mk hwa;have D:=Lh_ N;have R:=Lh_ O;clear N O;have P:=run_app_full (F:=fun _=>True) (base:=wa.heap.size) E_attr 26 A (xs.take i) (w:=wa) (S:=fun b=>b<wa.heap.size) (by rw [I.out.2];exact SlS_iff.1 (W.out.next (Nat.le_refl _) D.out)) (fun hA=>by have h:=W.out.2.2;rw [hA] at h;rcases Nat.eq_zero_or_pos (xs.take i).length with h0 | h0;exact List.length_eq_zero_iff.1 h0;obtain ⟨b,o,e,-⟩:=h h0;cases e) wd.heap.size ⟨n,x⟩ (fun j u hu=>R.out.1 j u hu) ⟨H1.out,H2.out⟩ (by have:=L.out.2;unfold maxLen;omega) (by have:=L.out.2;omega) (Nat.le_refl _);rw [I.out.2] at P;have B0:=Lh_ P;clear P;go_wp2_with (at_builtin;go_must (refine wpList_app rfl _ _ rfl (.slice A i i) (.slice (some ⟨wd.heap.size,0,none⟩) 1 1) rfl rfl B0.out ?_);rintro v3 w3 ⟨F0,D0,Q0⟩;have L0:=Lh_ F0;have X:=Lh_ D0;clear F0 D0 Q0 hwa;obtain ⟨A3,c3,T,G0⟩:=L0.out.sl;have G:(xs.take i ++ [(⟨n,x⟩:Attr)]).length=i+1:=(by rw [List.length_append,I.out.2];rfl);rw [G] at T;subst T;have M0:=Lh_ G0;have A0:=Lh_ G;clear G0 G;obtain ⟨w4,hw4⟩:∃ z,w3.alloc (.cells #[.slice A3 (i+1) c3,.slice Ad (xs.length - i - 1) 0] 26)=z:=⟨_,rfl⟩;have E0:Below w3.heap.size w3 w4:=(by rw [← hw4];exact (Below.refl _ _).alloc (Nat.le_refl _) _);have H0:BoxL w4 w3.heap.size [.slice A3 (i+1) c3,.slice Ad (xs.length - i - 1) 0]:=box_mk hw4;have Z:=Lh_ E0;have C0:=Lh_ H0;clear E0 H0);have Y:=Lh_ (X.out.trans (Z.out.mono X.out.size));have J:=Lh_ (D.out.trans (Y.out.mono D.out.size));refine (Concat_any w3.heap.size A3 Ad c3 (0) (xs.take i ++ [⟨n,x⟩]) (xs.drop (i+1)) _ (by rw [A0.out];exact C0.out.1 0 _ rfl) (by rw [H.out];exact C0.out.1 1 _ rfl) (.inl (M0.out.next (Nat.le_refl _) Z.out)) (HT.out.imp (fun h=>h.next (Nat.le_refl _) J.out) id) ⟨by rw [List.length_append,List.length_singleton];have:=I.out.2;have:=HL.out;omega,L.out.1⟩).mono ?_;rintro e wb ⟨M,v,rfl,E⟩;have U:=tb_ J M;have K:=Lh_ (E.low (show wd.heap.size≤w4.heap.size from J.out.size));clear M E hw4;have HF:=Lh_ (C.out.trans (U.out.mono C.out.size));go_wp2;go_ret;exact ⟨HF.out,_,rfl,by rw [V.out,if_neg HV.out,I0.out,← List.append_assoc];exact K.out.low C.out.size⟩
 go_upto_region 5 with fail
 obtain ⟨At,hAt⟩:∃ z,Ad.map (·.add (1 * 2))=z:=⟨_,rfl⟩;have P0:Ad.map (·.add 2)=At:=hAt;simp [Addr.add] at P0
 have HT:=Lh_ (show Sl wd wd.heap.size At (c - i - 1) (xs.drop (i+1))∨xs.drop (i+1)=[] from tailS1 (by rw [if_neg hc1];exact hAt) X0.out);rw [P0];clear hAt P0 k1 k2 k3 k4 hc1;have L:=Lh_ (show (xs.drop (i+1)).length≤1000000∧(xs.take i).length≤1000000 by have:=HL.out;have:=I.out;constructor;(rw [H.out];omega);omega);by_cases hv:x.toList.isEmpty=true
 ·
  have R0:(x.toList == (⟨#[]⟩:ByteArray).toList)=true:=by rw [show (⟨#[]⟩:ByteArray).toList=[] by decide +kernel];cases hq:x.toList with | nil=>rfl | cons a r=>rw [hq] at hv;cases hv
  have S0:(x.toList == [])=true:=by cases hq:x.toList with | nil=>rfl | cons a r=>rw [hq] at hv;cases hv
  have HV:=Lh_ hv;clear hv;obtain ⟨wa,hwa⟩:∃ z,wd.alloc (.cells #[.slice A i i,.slice At (xs.length - i - 1) (c - i - 1)] 26)=z:=⟨_,rfl⟩;have N:Below wd.heap.size wd wa:=by rw [← hwa];exact (Below.refl _ _).alloc (Nat.le_refl _) _
  have O:BoxL wa wd.heap.size [.slice A i i,.slice At (xs.length - i - 1) (c - i - 1)]:=box_mk hwa;have D:=Lh_ N;have R:=Lh_ O;clear N O;go_wp2_with fail;refine (Concat_any wd.heap.size A At i ((c - i - 1)) (xs.take i) (xs.drop (i+1)) _ (by rw [I.out.2];exact R.out.1 0 _ rfl) (by rw [H.out];exact R.out.1 1 _ rfl) (.inl (W.out.next (Nat.le_refl _) D.out)) (HT.out.imp (fun h=>h.next (Nat.le_refl _) D.out) id) ⟨L.out.2,L.out.1⟩).mono ?_;rintro e wb ⟨M,v,rfl,E⟩;have U:=tb_ D M;have K:=Lh_ (E.low (show wd.heap.size≤wa.heap.size from D.out.size));clear M E hwa;have HF:=Lh_ (C.out.trans (U.out.mono C.out.size));go_wp2;go_ret;exact ⟨HF.out,_,rfl,by rw [V.out,if_pos HV.out,List.nil_append,I0.out];exact K.out.low C.out.size⟩
 have Q:x.toList.isEmpty=false:=by simpa using hv
 have R0:(x.toList == (⟨#[]⟩:ByteArray).toList)=false:=by rw [show (⟨#[]⟩:ByteArray).toList=[] by decide +kernel];cases hq:x.toList with | nil=>rw [hq] at Q;cases Q | cons a r=>rfl
 have S0:(x.toList == [])=false:=by cases hq:x.toList with | nil=>rw [hq] at Q;cases Q | cons a r=>rfl
 have HV:=Lh_ hv;clear hv Q;obtain ⟨wa,hwa⟩:∃ z,wd.alloc (.cells #[.string n,.string x] 53)=z:=⟨_,rfl⟩;have N:Below wd.heap.size wd wa:=by rw [← hwa];exact (Below.refl _ _).alloc (Nat.le_refl _) _
 have O:BoxL wa wd.heap.size [.string n,.string x]:=box_mk hwa;have D:=Lh_ N;have R:=Lh_ O;clear N O;have P:=run_app_full (F:=fun _=>True) (base:=wa.heap.size) E_attr 26 A (xs.take i) (w:=wa) (S:=fun b=>b<wa.heap.size) (by rw [I.out.2];exact SlS_iff.1 (W.out.next (Nat.le_refl _) D.out)) (fun hA=>by have h:=W.out.2.2;rw [hA] at h;rcases Nat.eq_zero_or_pos (xs.take i).length with h0 | h0;exact List.length_eq_zero_iff.1 h0;obtain ⟨b,o,e,-⟩:=h h0;cases e) wd.heap.size ⟨n,x⟩ (fun j u hu=>R.out.1 j u hu) ⟨H1.out,H2.out⟩ (by have:=L.out.2;unfold maxLen;omega) (by have:=L.out.2;omega) (Nat.le_refl _);rw [I.out.2] at P;have B0:=Lh_ P;clear P;go_wp2_with (at_builtin;go_must (refine wpList_app rfl _ _ rfl (.slice A i i) (.slice (some ⟨wd.heap.size,0,none⟩) 1 1) rfl rfl B0.out ?_);rintro v3 w3 ⟨F0,D0,Q0⟩;have L0:=Lh_ F0;have X:=Lh_ D0;clear F0 D0 Q0 hwa;obtain ⟨A3,c3,T,G0⟩:=L0.out.sl;have G:(xs.take i ++ [(⟨n,x⟩:Attr)]).length=i+1:=(by rw [List.length_append,I.out.2];rfl);rw [G] at T;subst T;have M0:=Lh_ G0;have A0:=Lh_ G;clear G0 G;obtain ⟨w4,hw4⟩:∃ z,w3.alloc (.cells #[.slice A3 (i+1) c3,.slice At (xs.length - i - 1) (c - i - 1)] 26)=z:=⟨_,rfl⟩;have E0:Below w3.heap.size w3 w4:=(by rw [← hw4];exact (Below.refl _ _).alloc (Nat.le_refl _) _);have H0:BoxL w4 w3.heap.size [.slice A3 (i+1) c3,.slice At (xs.length - i - 1) (c - i - 1)]:=box_mk hw4;have Z:=Lh_ E0;have C0:=Lh_ H0;clear E0 H0);have Y:=Lh_ (X.out.trans (Z.out.mono X.out.size));have J:=Lh_ (D.out.trans (Y.out.mono D.out.size));refine (Concat_any w3.heap.size A3 At c3 ((c - i - 1)) (xs.take i ++ [⟨n,x⟩]) (xs.drop (i+1)) _ (by rw [A0.out];exact C0.out.1 0 _ rfl) (by rw [H.out];exact C0.out.1 1 _ rfl) (.inl (M0.out.next (Nat.le_refl _) Z.out)) (HT.out.imp (fun h=>h.next (Nat.le_refl _) J.out) id) ⟨by rw [List.length_append,List.length_singleton];have:=I.out.2;have:=HL.out;omega,L.out.1⟩).mono ?_;rintro e wb ⟨M,v,rfl,E⟩;have U:=tb_ J M;have K:=Lh_ (E.low (show wd.heap.size≤w4.heap.size from J.out.size));clear M E hw4;have HF:=Lh_ (C.out.trans (U.out.mono C.out.size));go_wp2;go_ret;exact ⟨HF.out,_,rfl,by rw [V.out,if_neg HV.out,I0.out,← List.append_assoc];exact K.out.low C.out.size⟩
end Go.Proofs.YtjpoljlgkgmdkaaGreatDoor
namespace Go.Cold
open Go Go.RowKit Go.Proofs.YtjpoljlgkgmdkaaGreatDoor
def SlPost (l:List Attr) (w:World) (e:Ending) (w':World):Prop:=Below w.heap.size w w'∧∃ A c,e=.returned (.slice A l.length c)∧Sl w' w'.heap.size A c l
def baseK (x:ByteArray):Bool:=baseKeys.any fun k=>decide (x=k)
theorem baseK_contains (x:ByteArray):Lib.containsS (baseKeys.take 7) x=baseK x:=by
 rw [show baseKeys.take 7=baseKeys from rfl,Bool.eq_iff_iff,Lib.containsS_iff];unfold baseK;rw [List.any_eq_true];constructor
 · intro h;exact ⟨x,h,decide_eq_true rfl⟩
 rintro ⟨k,A,e⟩;rw [of_decide_eq_true e];exact A
theorem str_eq {x:ByteArray} {l:List UInt8} {a:Array UInt8} (ha:(⟨a⟩:ByteArray).toList=l):(x.toList == l)=decide (x=⟨a⟩):=by
 rw [← ha];exact ba_beq x ⟨a⟩
end Go.Cold
namespace Go.Proofs.YtjpoljlgkgmdkaaGreatDoor
open Go.RowKit Go.Cold
theorem BKey_any (x:ByteArray) (w:World):Calls Tryz.prog 111 #[.string x] w fun e w'=>e=.returned (.bool (baseK x))∧Below w.heap.size w w':=by
 go_enter Tryz.func111,Tryz.ntmps111;obtain ⟨wa,hwa⟩:∃ z,w.alloc (.cells #[.string ⟨#[68,69,86,78,65,77,69]⟩,.string ⟨#[68,69,86,80,65,84,72]⟩,.string ⟨#[68,82,73,86,69,82]⟩,.string ⟨#[73,78,84,69,82,70,65,67,69]⟩,.string ⟨#[77,79,68,65,76,73,65,83]⟩,.string ⟨#[78,85,77,66,69,82]⟩,.string ⟨#[83,85,66,83,89,83,84,69,77]⟩] 9)=z:=⟨_,rfl⟩;have A:Below w.heap.size w wa:=by rw [← hwa];exact (Below.refl _ _).alloc (Nat.le_refl _) _
 have B:BoxL wa w.heap.size [.string ⟨#[68,69,86,78,65,77,69]⟩,.string ⟨#[68,69,86,80,65,84,72]⟩,.string ⟨#[68,82,73,86,69,82]⟩,.string ⟨#[73,78,84,69,82,70,65,67,69]⟩,.string ⟨#[77,79,68,65,76,73,65,83]⟩,.string ⟨#[78,85,77,66,69,82]⟩,.string ⟨#[83,85,66,83,89,83,84,69,77]⟩]:=box_mk hwa;have D:=Lh_ A;have E:=Lh_ B;clear A B;go_wp2_with fail;try rw [hwa]
 refine (Tryz.slices_Contains_string w.heap.size 0 7 7 baseKeys x _ (by decide) (by decide) (fun j hj=>?_)).mono ?_
 ·
  have F:j<7:=hj;rw [Nat.zero_add];refine E.out.1 j _ ?_;rcases j with _ | _ | _ | _ | _ | _ | _ | j <;> first | rfl | omega
 rintro e w9 ⟨rfl,C⟩;rw [C];clear C w9;rw [baseK_contains];clear hwa;go_wp2;go_ret;exact ⟨rfl,D.out⟩
theorem RBKey_any (x:ByteArray) (w:World):Calls Tryz.prog 101 #[.string x] w fun e w'=>e=.returned (.bool (baseK x))∧w'=w:=by
 have D:=str_eq (x:=x) (a:=#[68,69,86,78,65,77,69]) (l:=[68,69,86,78,65,77,69]) (by decide +kernel);have E:=str_eq (x:=x) (a:=#[68,69,86,80,65,84,72]) (l:=[68,69,86,80,65,84,72]) (by decide +kernel);have F:=str_eq (x:=x) (a:=#[68,82,73,86,69,82]) (l:=[68,82,73,86,69,82]) (by decide +kernel);have A:=str_eq (x:=x) (a:=#[73,78,84,69,82,70,65,67,69]) (l:=[73,78,84,69,82,70,65,67,69]) (by decide +kernel);have C:=str_eq (x:=x) (a:=#[77,79,68,65,76,73,65,83]) (l:=[77,79,68,65,76,73,65,83]) (by decide +kernel);have G:=str_eq (x:=x) (a:=#[78,85,77,66,69,82]) (l:=[78,85,77,66,69,82]) (by decide +kernel);have B:=str_eq (x:=x) (a:=#[83,85,66,83,89,83,84,69,77]) (l:=[83,85,66,83,89,83,84,69,77]) (by decide +kernel);have H:=Lh_ (show baseK x=((x.toList == [68,69,86,78,65,77,69]) || (x.toList == [68,69,86,80,65,84,72]) || (x.toList == [68,82,73,86,69,82]) || (x.toList == [73,78,84,69,82,70,65,67,69]) || (x.toList == [77,79,68,65,76,73,65,83]) || (x.toList == [78,85,77,66,69,82]) || (x.toList == [83,85,66,83,89,83,84,69,77])) by rw [Bool.eq_iff_iff];simp only [baseK,baseKeys,List.any_cons,List.any_nil,Bool.or_false,Bool.or_eq_true,D,E,F,A,C,G,B,decide_eq_true_eq,or_assoc];exact Iff.rfl);clear D E F A C G B;go_enter Tryz.func101,Tryz.ntmps101;cases c0:(x.toList == [68,69,86,78,65,77,69])
 ·
  have J:(x.toList == (⟨#[68,69,86,78,65,77,69]⟩:ByteArray).toList)=false:=by rw [show (⟨#[68,69,86,78,65,77,69]⟩:ByteArray).toList=[68,69,86,78,65,77,69] by decide +kernel];exact c0
  cases c1:(x.toList == [68,69,86,80,65,84,72])
  ·
   have K:(x.toList == (⟨#[68,69,86,80,65,84,72]⟩:ByteArray).toList)=false:=by rw [show (⟨#[68,69,86,80,65,84,72]⟩:ByteArray).toList=[68,69,86,80,65,84,72] by decide +kernel];exact c1
   cases c2:(x.toList == [68,82,73,86,69,82])
   ·
    have L:(x.toList == (⟨#[68,82,73,86,69,82]⟩:ByteArray).toList)=false:=by rw [show (⟨#[68,82,73,86,69,82]⟩:ByteArray).toList=[68,82,73,86,69,82] by decide +kernel];exact c2
    cases c3:(x.toList == [73,78,84,69,82,70,65,67,69])
    ·
     have M:(x.toList == (⟨#[73,78,84,69,82,70,65,67,69]⟩:ByteArray).toList)=false:=by rw [show (⟨#[73,78,84,69,82,70,65,67,69]⟩:ByteArray).toList=[73,78,84,69,82,70,65,67,69] by decide +kernel];exact c3
     cases c4:(x.toList == [77,79,68,65,76,73,65,83])
     ·
      have N:(x.toList == (⟨#[77,79,68,65,76,73,65,83]⟩:ByteArray).toList)=false:=by rw [show (⟨#[77,79,68,65,76,73,65,83]⟩:ByteArray).toList=[77,79,68,65,76,73,65,83] by decide +kernel];exact c4
      cases c5:(x.toList == [78,85,77,66,69,82])
      ·
       have O:(x.toList == (⟨#[78,85,77,66,69,82]⟩:ByteArray).toList)=false:=by rw [show (⟨#[78,85,77,66,69,82]⟩:ByteArray).toList=[78,85,77,66,69,82] by decide +kernel];exact c5
       cases c6:(x.toList == [83,85,66,83,89,83,84,69,77])
       ·
        have P:(x.toList == (⟨#[83,85,66,83,89,83,84,69,77]⟩:ByteArray).toList)=false:=by rw [show (⟨#[83,85,66,83,89,83,84,69,77]⟩:ByteArray).toList=[83,85,66,83,89,83,84,69,77] by decide +kernel];exact c6
        have I:baseK x=false:=by rw [H.out];simp only [c0,c1,c2,c3,c4,c5,c6,Bool.or_false,Bool.false_or]
        clear H;go_wp2;go_ret;exact ⟨by rw [I];rfl,rfl⟩
       have P:(x.toList == (⟨#[83,85,66,83,89,83,84,69,77]⟩:ByteArray).toList)=true:=by rw [show (⟨#[83,85,66,83,89,83,84,69,77]⟩:ByteArray).toList=[83,85,66,83,89,83,84,69,77] by decide +kernel];exact c6
       have I:baseK x=true:=by rw [H.out];simp only [c0,c1,c2,c3,c4,c5,c6,Bool.or_true,Bool.true_or,Bool.or_false,Bool.false_or]
       clear H;go_wp2;go_ret;exact ⟨by rw [I];rfl,rfl⟩
      have O:(x.toList == (⟨#[78,85,77,66,69,82]⟩:ByteArray).toList)=true:=by rw [show (⟨#[78,85,77,66,69,82]⟩:ByteArray).toList=[78,85,77,66,69,82] by decide +kernel];exact c5
      have I:baseK x=true:=by rw [H.out];simp only [c0,c1,c2,c3,c4,c5,Bool.or_true,Bool.true_or,Bool.or_false,Bool.false_or]
      clear H;go_wp2;go_ret;exact ⟨by rw [I];rfl,rfl⟩
     have N:(x.toList == (⟨#[77,79,68,65,76,73,65,83]⟩:ByteArray).toList)=true:=by rw [show (⟨#[77,79,68,65,76,73,65,83]⟩:ByteArray).toList=[77,79,68,65,76,73,65,83] by decide +kernel];exact c4
     have I:baseK x=true:=by rw [H.out];simp only [c0,c1,c2,c3,c4,Bool.or_true,Bool.true_or,Bool.or_false,Bool.false_or]
     clear H;go_wp2;go_ret;exact ⟨by rw [I];rfl,rfl⟩
    have M:(x.toList == (⟨#[73,78,84,69,82,70,65,67,69]⟩:ByteArray).toList)=true:=by rw [show (⟨#[73,78,84,69,82,70,65,67,69]⟩:ByteArray).toList=[73,78,84,69,82,70,65,67,69] by decide +kernel];exact c3
    have I:baseK x=true:=by rw [H.out];simp only [c0,c1,c2,c3,Bool.or_true,Bool.true_or,Bool.or_false,Bool.false_or]
    clear H;go_wp2;go_ret;exact ⟨by rw [I];rfl,rfl⟩
   have L:(x.toList == (⟨#[68,82,73,86,69,82]⟩:ByteArray).toList)=true:=by rw [show (⟨#[68,82,73,86,69,82]⟩:ByteArray).toList=[68,82,73,86,69,82] by decide +kernel];exact c2
   have I:baseK x=true:=by rw [H.out];simp only [c0,c1,c2,Bool.or_true,Bool.true_or,Bool.or_false,Bool.false_or]
   clear H;go_wp2;go_ret;exact ⟨by rw [I];rfl,rfl⟩
  have K:(x.toList == (⟨#[68,69,86,80,65,84,72]⟩:ByteArray).toList)=true:=by rw [show (⟨#[68,69,86,80,65,84,72]⟩:ByteArray).toList=[68,69,86,80,65,84,72] by decide +kernel];exact c1
  have I:baseK x=true:=by rw [H.out];simp only [c0,c1,Bool.or_true,Bool.true_or,Bool.or_false,Bool.false_or]
  clear H;go_wp2;go_ret;exact ⟨by rw [I];rfl,rfl⟩
 have J:(x.toList == (⟨#[68,69,86,78,65,77,69]⟩:ByteArray).toList)=true:=by rw [show (⟨#[68,69,86,78,65,77,69]⟩:ByteArray).toList=[68,69,86,78,65,77,69] by decide +kernel];exact c0
 have I:baseK x=true:=by rw [H.out];simp only [c0,Bool.or_true,Bool.true_or,Bool.or_false,Bool.false_or]
 clear H;go_wp2;go_ret;exact ⟨by rw [I];rfl,rfl⟩
end Go.Proofs.YtjpoljlgkgmdkaaGreatDoor
