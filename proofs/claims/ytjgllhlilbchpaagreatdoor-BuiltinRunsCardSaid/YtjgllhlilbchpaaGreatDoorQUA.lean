/-
  The walks of partition.Number,device.Get and the reference's Number,Get and Content.
-/
import Derived.Test.YtjgllhlilbchpaaGreatDoorQTK
import Derived.Test.YtjgllhlilbchpaaGreatDoorQW
import Derived.Test.YtjgllhlilbchpaaGreatDoorQA
import Derived.Test.YtjgllhlilbchpaaGreatDoorQSL
import Derived.Test.YtjgllhlilbchpaaGreatDoorQC
import Derived.Test.YtjgllhlilbchpaaGreatDoorQH
import Derived.Test.YtjgllhlilbchpaaGreatDoorQG
import Derived.Lib.ItoaLen
import Derived.Lib.MapLaws
import Derived.Lib.TrimAscii
import Derived.Test.YtjgllhlilbchpaaGreatDoorQP
set_option linter.unusedSimpArgs false
set_option linter.unusedVariables false
namespace Go.Cold
open Go Go.RowKit
def getA:List Attr→ByteArray→Option ByteArray
 | [],_=>none
 | a :: l,n=>if a.name=n then some a.value else getA l n
theorem getA_yes {xs:List Attr} {n:ByteArray} {k:Nat} {y:Attr} (hlt:k<xs.length) (hy:xs[k]=y) (h:y.name=n):getA (xs.drop k) n=some y.value:=by
 rw [List.drop_eq_getElem_cons hlt,hy,getA,if_pos h]
theorem getA_no {xs:List Attr} {n:ByteArray} {k:Nat} {y:Attr} (hlt:k<xs.length) (hy:xs[k]=y) (h:y.name≠n):getA (xs.drop k) n=getA (xs.drop (k+1)) n:=by
 rw [List.drop_eq_getElem_cons hlt,hy,getA,if_neg h]
theorem ret_get {o:Option ByteArray} {s:ByteArray} {b:Bool} (h:o.getD ByteArray.empty=s∧o.isSome=b):Ending.returned (.tuple #[.string s,.bool b])=.returned (.tuple #[.string (o.getD ByteArray.empty),.bool o.isSome]):=by rw [h.1,h.2]
end Go.Cold
namespace Go.Proofs.YtjgllhlilbchpaaGreatDoor
open Go.RowKit Go.Cold
theorem Get_any (A:Option Addr) (c:Nat) (xs:List Attr) (n:ByteArray) (w:World) (B:Nat) (hB:B≤w.heap.size) (hx:Sl w B A c xs) :
  Calls Tryz.prog 11 #[.slice A xs.length c,.string n] w fun e w'=>e=.returned (.tuple #[.string ((getA xs n).getD ByteArray.empty),.bool (getA xs n).isSome])∧Below w.heap.size w w':=by
 have hx1:=hx.1;have hx2:=hx.2.1;unfold maxLen at hx2;have HX:=Lh_ hx;have HB:=Lh_ hB;have HL:=Lh_ hx2;clear hx hB;go_enter Tryz.func11,Tryz.ntmps11;go_wp2_with fail;go_loopw [10] (fun i wr=>∃ k:Nat,k≤xs.length∧i=.int .i64 k∧Hid (Below w.heap.size w wr)∧Hid (getA xs n=getA (xs.drop k) n)) (fun i _=>xs.length - (intOf i).toNat)
 case atStart=>exact ⟨0,Nat.zero_le _,rfl,Below.refl _ _,rfl⟩
 case round =>
  obtain ⟨k,hk,rfl,HBR,HA⟩:=hrel;by_cases hlt:k<xs.length
  ·
   have i1:(k:Int)<(xs.length:Int):=by omega
   obtain ⟨b,o,rfl,hb,hsz,hc0,hc1⟩:=(HX.out.keep (HBR.out.mono HB.out)).attr hlt;obtain ⟨y,hy⟩:∃ y,xs[k]'hlt=y:=⟨_,rfl⟩;rw [hy] at hsz hc0 hc1;have HY:=Lh_ hy;have HLT:=Lh_ hlt;clear hy hsz hb;go_upto_region 4 with fail
   obtain ⟨w1,hw1⟩:∃ w1,wr.alloc (.cells #[.string y.name,.string y.value] 42)=w1:=⟨_,rfl⟩;have hb1:Below wr.heap.size wr w1:=by rw [← hw1];exact (Below.refl _ _).alloc (Nat.le_refl _) _
   have hbx:BoxL w1 wr.heap.size [.string y.name,.string y.value]:=box_mk hw1;try rw [hw1]
   have t0:=hbx.1 0 _ rfl;have t1:=hbx.1 1 _ rfl;have HB1:=tb_ HBR hb1;clear hw1 hb1 hbx hc0 hc1;by_cases hn:y.name=n
   ·
    have p1:(y.name.toList == n.toList)=true:=by rw [ba_beq];exact decide_eq_true hn
    have HG:=Lh_ (show getA xs n=some y.value by rw [HA.out];exact getA_yes HLT.out HY.out hn);clear hn;go_wp2;go_ret2;exact ⟨ret_get (by rw [HG.out];exact ⟨rfl,rfl⟩),HB1.out⟩
   ·
    have p1:(y.name.toList == n.toList)=false:=by rw [ba_beq];exact decide_eq_false hn
    have HG:=Lh_ (show getA xs n=getA (xs.drop (k+1)) n by rw [HA.out];exact getA_no HLT.out HY.out hn);clear hn;go_wp2;go_roundw
    case rel=>exact ⟨k+1,by omega,by go_num,HB1,HG⟩
    case measure=>simp [intOf];omega
  ·
   have hk2:k=xs.length:=by omega
   have HG:=Lh_ (show getA xs n=none by rw [HA.out,hk2,List.drop_length];rfl);clear HA;subst hk2;go_wp2;go_ret2;exact ⟨ret_get (by rw [HG.out];exact ⟨rfl,rfl⟩),HBR.out⟩
theorem RGet_any (A:Option Addr) (c:Nat) (xs:List Attr) (n:ByteArray) (w:World) (B:Nat) (hB:B≤w.heap.size) (hx:Sl w B A c xs) :
  Calls Tryz.prog 64 #[.slice A xs.length c,.string n] w fun e w'=>e=.returned (.tuple #[.string ((getA xs n).getD ByteArray.empty),.bool (getA xs n).isSome])∧w'=w:=by
 have hx1:=hx.1;have hx2:=hx.2.1;unfold maxLen at hx2;have HX:=Lh_ hx;have HL:=Lh_ hx2;clear hx hB;go_enter Tryz.func64,Tryz.ntmps64;go_wp2_with fail;go_loop [6] (fun i=>∃ k:Nat,k≤xs.length∧i=.int .i64 k∧Hid (getA xs n=getA (xs.drop k) n)) (fun i=>xs.length - (intOf i).toNat)
 case atStart=>exact ⟨0,Nat.zero_le _,rfl,rfl⟩
 case round =>
  obtain ⟨k,hk,rfl,HA⟩:=hrel;by_cases hlt:k<xs.length
  ·
   have i1:(k:Int)<(xs.length:Int):=by omega
   obtain ⟨b,o,rfl,hb,hsz,hc0,hc1⟩:=HX.out.attr hlt;obtain ⟨y,hy⟩:∃ y,xs[k]'hlt=y:=⟨_,rfl⟩;rw [hy] at hsz hc0 hc1;have HY:=Lh_ hy;have HLT:=Lh_ hlt;clear hy hsz hb;by_cases hn:y.name=n
   ·
    have p1:(y.name.toList == n.toList)=true:=by rw [ba_beq];exact decide_eq_true hn
    have HG:=Lh_ (show getA xs n=some y.value by rw [HA.out];exact getA_yes HLT.out HY.out hn);clear hn;go_wp2;go_ret2;exact ⟨ret_get (by rw [HG.out];exact ⟨rfl,rfl⟩),rfl⟩
   ·
    have p1:(y.name.toList == n.toList)=false:=by rw [ba_beq];exact decide_eq_false hn
    have HG:=Lh_ (show getA xs n=getA (xs.drop (k+1)) n by rw [HA.out];exact getA_no HLT.out HY.out hn);clear hn;go_wp2;go_round
    case rel=>exact ⟨k+1,by omega,by go_num,HG⟩
    case measure=>simp [intOf];omega
  ·
   have hk2:k=xs.length:=by omega
   have HG:=Lh_ (show getA xs n=none by rw [HA.out,hk2,List.drop_length];rfl);clear HA;subst hk2;go_wp2;go_ret2;exact ⟨ret_get (by rw [HG.out];exact ⟨rfl,rfl⟩),rfl⟩
def nmContent:ByteArray:=⟨#[99,111,110,116,101,110,116]⟩
def contD (d:Dev):ByteArray:=(getA d.attrs nmContent).getD ByteArray.empty
end Go.Proofs.YtjgllhlilbchpaaGreatDoor
namespace Go.Cold
open Go Go.RowKit
theorem strLt_iff {a b:ByteArray}:strLt a b=true↔cmpB a b<0:=by
 unfold strLt;constructor
 · intro h;rw [cmpB_less h];decide
 ·
  intro h
  cases hl:Op.bytesLess a.toList b.toList with
  | true=>rfl
  | false =>
   by_cases he:a=b
   · rw [cmpB_eq he] at h;exact absurd h (by decide)
   · rw [cmpB_more hl he] at h;exact absurd h (by decide)
theorem strLt_irr (a:ByteArray):strLt a a=false:=by
 cases h:strLt a a with
 | false=>rfl
 | true=>have:=strLt_iff.1 h;rw [cmpB_eq rfl] at this;exact absurd this (by decide)
theorem strLt_trans {a b c:ByteArray} (h1:strLt a b=true) (h2:strLt b c=true):strLt a c=true :=
 strLt_iff.2 (cmpB_total.lt a b c (strLt_iff.1 h1) (strLt_iff.1 h2))
theorem strLt_asym {a b:ByteArray} (h:strLt a b=true):strLt b a=false:=by
 cases h2:strLt b a with
 | false=>rfl
 | true=>have:=strLt_trans h h2;rw [strLt_irr] at this;cases this
theorem strLt_tri {a b:ByteArray} (h1:strLt a b=false) (h2:strLt b a=false):a=b:=by
 by_cases h:cmpB a b=0
 · exact cmpB_zero h
 ·
  exfalso
  rcases cmpB_cases a b with h3 | h3 | h3
  · rw [strLt_iff.2 (by omega)] at h1;cases h1
  · exact h h3
  ·
   have:=cmpB_total.anti a b
   rw [strLt_iff.2 (by omega)] at h2;cases h2
theorem sortedA_cons {a:Attr} {l:List Attr}:sortedA (a :: l)=true↔(∀ b ∈ l,strLt a.name b.name=true)∧sortedA l=true:=by
 induction l generalizing a with
 | nil=>simp [sortedA]
 | cons b r ih =>
  rw [sortedA,Bool.and_eq_true];constructor
  ·
   rintro ⟨h1,h2⟩
   refine ⟨fun c hc=>?_,h2⟩;rcases List.mem_cons.1 hc with rfl | hc
   · exact h1
   · exact strLt_trans h1 ((ih.1 h2).1 c hc)
  ·
   rintro ⟨h1,h2⟩
   exact ⟨h1 b List.mem_cons_self,h2⟩
theorem sortedA_append {l r:List Attr}:sortedA (l ++ r)=true↔sortedA l=true∧sortedA r=true∧∀ a ∈ l,∀ b ∈ r,strLt a.name b.name=true:=by
 induction l with
 | nil=>simp [sortedA]
 | cons x l ih =>
  rw [List.cons_append,sortedA_cons,sortedA_cons,ih];constructor
  ·
   rintro ⟨h1,h2,h3,h4⟩
   exact ⟨⟨fun b hb=>h1 b (List.mem_append_left _ hb),h2⟩,h3,fun a ha b hb=>by
    rcases List.mem_cons.1 ha with rfl | ha
    · exact h1 b (List.mem_append_right _ hb)
    · exact h4 a ha b hb⟩
  ·
   rintro ⟨⟨h1,h2⟩,h3,h4⟩
   exact ⟨fun b hb=>by
    rcases List.mem_append.1 hb with hb | hb
    · exact h1 b hb
    · exact h4 x List.mem_cons_self b hb,h2,h3,fun a ha b hb=>h4 a (List.mem_cons_of_mem _ ha) b hb⟩
def ltP (n:ByteArray) (a:Attr):Bool:=strLt a.name n
def posA (l:List Attr) (n:ByteArray):Nat:=(l.takeWhile (ltP n)).length
theorem posA_le (l:List Attr) (n:ByteArray):posA l n≤l.length:=by
 unfold posA;exact (List.takeWhile_prefix (ltP n)).length_le
theorem posA_spec {l:List Attr} (h:sortedA l=true) (n:ByteArray):(∀ (i:Nat) (a:Attr),l[i]? = some a→(strLt a.name n=true↔i<posA l n)):=by
 induction l with
 | nil=>intro i a hi;simp at hi
 | cons x r ih =>
  obtain ⟨h1,h2⟩:=sortedA_cons.1 h;intro i a hi;unfold posA;rw [List.takeWhile_cons];cases hx:ltP n x with
  | true =>
   simp only [if_true,List.length_cons];cases i with
   | zero=>simp at hi;subst hi;exact ⟨fun _=>by omega,fun _=>hx⟩
   | succ i =>
    simp at hi
    have:=ih h2 i a hi;unfold posA at this;rw [this];omega
  | false =>
   simp only [Bool.false_eq_true,if_false,List.length_nil,Nat.not_lt_zero,iff_false];intro ha;cases i with
   | zero=>simp at hi;subst hi;unfold ltP at hx;rw [hx] at ha;cases ha
   | succ i =>
    simp at hi
    have:=strLt_trans (h1 a (List.mem_of_getElem? hi)) ha;unfold ltP at hx;rw [hx] at this;cases this
theorem posA_unique {l:List Attr} {n:ByteArray} {k:Nat} (h:sortedA l=true) (hk:k≤l.length) (h1:∀ (i:Nat) (a:Attr),l[i]? = some a→i<k→strLt a.name n=true) (h2:∀ (i:Nat) (a:Attr),l[i]? = some a→k≤i→strLt a.name n=false):posA l n=k:=by
 have hs:=posA_spec h n;have hp:=posA_le l n;rcases Nat.lt_trichotomy (posA l n) k with hlt | he | hgt
 ·
  exfalso
  have hl:posA l n<l.length:=by omega
  have ha:=List.getElem?_eq_getElem hl;have h3:=h1 _ _ ha hlt;have:=(hs _ _ ha).1 h3;omega
 · exact he
 ·
  exfalso
  have hl:k<l.length:=by omega
  have ha:=List.getElem?_eq_getElem hl;have h3:=h2 _ _ ha (Nat.le_refl _);have:=(hs _ _ ha).2 hgt;rw [h3] at this;cases this
def atA (l:List Attr) (n:ByteArray):Bool:=match l[posA l n]? with | some a=>decide (a.name=n) | none=>false
theorem setGo_lt {n v:ByteArray}:∀ {A B:List Attr} {d:Bool},(∀ a ∈ A,strLt a.name n=true)→setGo n v d (A ++ B)=A ++ setGo n v d B
 | [],B,d,_=>rfl
 | a :: A,B,d,h=>by
  have ha:=h a List.mem_cons_self;have hne:a.name≠n:=fun e=>by rw [e,strLt_irr] at ha;cases ha
  rw [List.cons_append,setGo,if_neg hne,setGo_lt (fun b hb=>h b (List.mem_cons_of_mem _ hb))];have hg:geA a.name n=false:=by unfold geA;rw [ha];rfl
  rw [hg,Bool.and_false,Bool.or_false];simp
theorem setGo_gt {n v:ByteArray}:∀ {B:List Attr},(∀ b ∈ B,b.name≠n)→setGo n v true B=B
 | [],_=>rfl
 | b :: B,h=>by
  rw [setGo,if_neg (h b List.mem_cons_self),Bool.true_or,setGo_gt (fun c hc=>h c (List.mem_cons_of_mem _ hc))];simp
def putL (l:List Attr) (n v:ByteArray):List Attr :=
 l.take (posA l n) ++ ((if v.toList.isEmpty then [] else [⟨n,v⟩]) ++ l.drop (posA l n+(if atA l n then 1 else 0)))
theorem set_put {l:List Attr} (h:sortedA l=true) (n v:ByteArray):setA l n v=putL l n v:=by
 have hs:=posA_spec h n;have hp:=posA_le l n;unfold putL setA;obtain ⟨k,hk⟩:∃ k,posA l n=k:=⟨_,rfl⟩;have hA:∀ a ∈ l.take k,strLt a.name n=true:=fun a ha=>by
  obtain ⟨i,hi,rfl⟩:=List.getElem_of_mem ha;rw [List.length_take] at hi;exact (hs i _ (by rw [List.getElem_take];exact List.getElem?_eq_getElem (by omega))).2 (by omega)
 have hB:∀ b ∈ l.drop k,strLt b.name n=false:=fun b hb=>by
  obtain ⟨i,hi,rfl⟩:=List.getElem_of_mem hb;rw [List.length_drop] at hi;cases hc:strLt (l.drop k)[i].name n with
  | false=>rfl
  | true =>
   have:=(hs (k+i) _ (by rw [List.getElem_drop];exact List.getElem?_eq_getElem (by omega))).1 hc;omega
 rw [hk];have hat:atA l n=(match (l.drop k).head? with | some a=>decide (a.name=n) | none=>false):=by
  unfold atA;rw [hk,List.head?_drop]
 conv=>lhs;rw [← List.take_append_drop k l]
 rw [setGo_lt hA];congr 1
 have hd:sortedA (l.drop k)=true:=by
  have:=h;rw [← List.take_append_drop k l] at this;exact (sortedA_append.1 this).2.1
 rw [hat];rw [show l.drop (k+(if (match (l.drop k).head? with | some a=>decide (a.name=n) | none=>false)=true then 1 else 0))=(l.drop k).drop (if (match (l.drop k).head? with | some a=>decide (a.name=n) | none=>false)=true then 1 else 0) by rw [List.drop_drop]];obtain ⟨B,hBe⟩:∃ B,l.drop k=B:=⟨_,rfl⟩;rw [hBe] at hB hd ⊢;cases B with
 | nil=>cases hv:v.toList.isEmpty <;> simp [setGo]
 | cons b r =>
  have hb:=hB b List.mem_cons_self;have hg:geA b.name n=true:=by unfold geA;rw [hb];rfl
  have hr:∀ c ∈ r,c.name≠n:=fun c hc e=>by
   have:=(sortedA_cons.1 hd).1 c hc;rw [e,hb] at this;cases this
  rw [setGo,hg,Bool.or_true,setGo_gt hr];by_cases he:b.name=n
  ·
   have:decide (b.name=n)=true:=decide_eq_true he
   simp only [List.head?_cons,this,if_true,if_pos he,List.drop_succ_cons,List.drop_zero,List.nil_append];cases hv:v.toList.isEmpty <;> simp
  ·
   have:decide (b.name=n)=false:=decide_eq_false he
   simp only [List.head?_cons,this,Bool.false_eq_true,if_false,if_neg he,List.drop_zero];cases hv:v.toList.isEmpty <;> simp
theorem setA_sorted {l:List Attr} (h:sortedA l=true) (n v:ByteArray):sortedA (setA l n v)=true:=by
 rw [set_put h];have hs:=posA_spec h n;unfold putL;have h1:=h;rw [← List.take_append_drop (posA l n) l] at h1;obtain ⟨s1,s2,s3⟩:=sortedA_append.1 h1;have hd:∀ k,sortedA ((l.drop (posA l n)).drop k)=true:=fun k=>by
  have:=s2;rw [← List.take_append_drop k (l.drop (posA l n))] at this;exact (sortedA_append.1 this).2.1
 have hlt:∀ a ∈ l.take (posA l n),strLt a.name n=true:=fun a ha=>by
  obtain ⟨i,hi,rfl⟩:=List.getElem_of_mem ha;rw [List.length_take] at hi;exact (hs i _ (by rw [List.getElem_take];exact List.getElem?_eq_getElem (by omega))).2 (by omega)
 have hgt:∀ b ∈ l.drop (posA l n+(if atA l n then 1 else 0)),strLt n b.name=true:=fun b hb=>by
  have hmem:b ∈ l.drop (posA l n):=by rw [← List.drop_drop] at hb;exact List.mem_of_mem_drop hb
  have hnl:strLt b.name n=false:=by
   obtain ⟨i,hi,rfl⟩:=List.getElem_of_mem hmem;rw [List.length_drop] at hi;cases hc:strLt (l.drop (posA l n))[i].name n with
   | false=>rfl
   | true =>
    have:=(hs (posA l n+i) _ (by rw [List.getElem_drop];exact List.getElem?_eq_getElem (by omega))).1 hc;omega
  cases hc:strLt n b.name with
  | true=>rfl
  | false =>
   exfalso
   have hbn:=strLt_tri hnl hc;cases hd0:l.drop (posA l n) with
   | nil=>rw [hd0] at hmem;cases hmem
   | cons x r =>
    have hx0:l[posA l n]? = some x:=by
     have:(l.drop (posA l n))[0]? = some x:=by rw [hd0];rfl
     rw [List.getElem?_drop,Nat.add_zero] at this;exact this
    rw [hd0] at s2;by_cases hxn:x.name=n
    ·
     have hat:atA l n=true:=by unfold atA;rw [hx0];exact decide_eq_true hxn
     rw [hat,if_pos rfl,← List.drop_drop,hd0,List.drop_succ_cons,List.drop_zero] at hb;have:=(sortedA_cons.1 s2).1 b hb;rw [hbn,hxn,strLt_irr] at this;cases this
    ·
     rw [hd0] at hmem
     rcases List.mem_cons.1 hmem with rfl | hm
     · exact hxn hbn
     ·
      have h5:=(sortedA_cons.1 s2).1 b hm
      rw [hbn] at h5;have hx2:strLt x.name n=false:=by
       cases hq:strLt x.name n with
       | false=>rfl
       | true=>have:=(hs _ _ hx0).1 hq;omega
      rw [hx2] at h5;cases h5
 have hl:sortedA (l.drop (posA l n+(if atA l n then 1 else 0)))=true:=by rw [← List.drop_drop];exact hd _
 have hmd:∀ b ∈ l.drop (posA l n+(if atA l n then 1 else 0)),b ∈ l.drop (posA l n):=fun b hb=>by rw [← List.drop_drop] at hb;exact List.mem_of_mem_drop hb
 rw [sortedA_append];cases hv:v.toList.isEmpty with
 | true =>
  simp only [if_true,List.nil_append];exact ⟨s1,hl,fun a ha b hb=>s3 a ha b (hmd b hb)⟩
 | false =>
  simp only [Bool.false_eq_true,if_false,List.singleton_append];refine ⟨s1,sortedA_cons.2 ⟨hgt,hl⟩,fun a ha b hb=>?_⟩;rcases List.mem_cons.1 hb with rfl | hb
  · exact hlt a ha
  · exact s3 a ha b (hmd b hb)
theorem set_none {l:List Attr} {n:ByteArray} (h:∀ a ∈ l,a.name≠n) {v:ByteArray} (hv:v.toList.isEmpty=true):setA l n v=l:=by
 unfold setA;rw [hv,setGo_gt h]
end Go.Cold
namespace Go.Cold
open Go Go.RowKit
theorem getA_none {l:List Attr} {n:ByteArray}:getA l n=none↔∀ a ∈ l,a.name≠n:=by
 induction l with
 | nil=>simp [getA]
 | cons a r ih =>
  rw [getA];by_cases h:a.name=n
  · rw [if_pos h];simp [h]
  · rw [if_neg h,ih];simp [h]
theorem getA_mem {l:List Attr} {n v:ByteArray} (h:getA l n=some v):(⟨n,v⟩:Attr) ∈ l:=by
 induction l with
 | nil=>cases h
 | cons a r ih =>
  rw [getA] at h;by_cases he:a.name=n
  ·
   rw [if_pos he] at h
   have:a=⟨n,v⟩:=by cases a;simp_all
   rw [this];exact List.mem_cons_self
  ·
   rw [if_neg he] at h
   exact List.mem_cons_of_mem _ (ih h)
theorem getA_append {l r:List Attr} {n:ByteArray}:getA (l ++ r) n=(getA l n).or (getA r n):=by
 induction l with
 | nil=>simp [getA]
 | cons a l ih =>
  rw [List.cons_append,getA,getA];by_cases h:a.name=n
  · rw [if_pos h,if_pos h];rfl
  · rw [if_neg h,if_neg h,ih]
theorem sorted_ext:∀ {l r:List Attr},sortedA l=true→sortedA r=true→(∀ n,getA l n=getA r n)→l=r
 | [],[],_,_,_=>rfl
 | [],b :: r,_,_,h=>by
  have:=h b.name;rw [getA,getA,if_pos rfl] at this;cases this
 | a :: l,[],_,_,h=>by
  have:=h a.name;rw [getA,getA,if_pos rfl] at this;cases this
 | a :: l,b :: r,hl,hr,h=>by
  obtain ⟨l1,l2⟩:=sortedA_cons.1 hl;obtain ⟨r1,r2⟩:=sortedA_cons.1 hr;have ha:(⟨a.name,a.value⟩:Attr) ∈ b :: r:=getA_mem (by rw [← h,getA,if_pos rfl]);have hb:(⟨b.name,b.value⟩:Attr) ∈ a :: l:=getA_mem (by rw [h,getA,if_pos rfl]);have hab:a=b:=by
   rcases List.mem_cons.1 ha with h1 | h1
   · cases a;cases b;simpa using h1
   ·
    rcases List.mem_cons.1 hb with h2 | h2
    · cases a;cases b;simpa using h2.symm
    ·
     have q1:=r1 _ h1
     have q2:=l1 _ h2;have q3:strLt b.name a.name=true:=q1;have q4:strLt a.name b.name=true:=q2;rw [strLt_asym q3] at q4;cases q4
  subst hab;congr 1
  refine sorted_ext l2 r2 fun n=>?_
  by_cases hn:a.name=n
  ·
   have e1:getA l n=none:=getA_none.2 fun c hc e=>by
    have:=l1 c hc;rw [e,← hn,strLt_irr] at this;cases this
   have e2:getA r n=none:=getA_none.2 fun c hc e=>by
    have:=r1 c hc;rw [e,← hn,strLt_irr] at this;cases this
   rw [e1,e2]
  ·
   have:=h n
   rw [getA,getA,if_neg hn,if_neg hn] at this;exact this
def valO (v:ByteArray):Option ByteArray:=if v.toList.isEmpty then none else some v
theorem getA_set {l:List Attr} (h:sortedA l=true) (k v n:ByteArray):getA (setA l k v) n=if n=k then valO v else getA l n:=by
 have hs:=posA_spec h k;have hp:=posA_le l k;rw [set_put h];unfold putL;have h1:=h;rw [← List.take_append_drop (posA l k) l] at h1;obtain ⟨s1,s2,s3⟩:=sortedA_append.1 h1;have hlt:∀ a ∈ l.take (posA l k),a.name≠k:=fun a ha e=>by
  obtain ⟨i,hi,rfl⟩:=List.getElem_of_mem ha;rw [List.length_take] at hi;have hh:=(hs i (l.take (posA l k))[i] (by rw [List.getElem_take];exact List.getElem?_eq_getElem (by omega))).2 (by omega);rw [e,strLt_irr] at hh;cases hh
 -- what is dropped bears the name, and nothing behind it does
 have hdr:∀ n,n≠k→getA (l.drop (posA l k+(if atA l k then 1 else 0))) n=getA (l.drop (posA l k)) n:=fun n hn=>by
  cases hat:atA l k with
  | false=>simp
  | true =>
   unfold atA at hat;cases hx:l[posA l k]? with
   | none=>rw [hx] at hat;cases hat
   | some x =>
    rw [hx] at hat;have hxk:x.name=k:=of_decide_eq_true hat;have hlt2:=(List.getElem?_eq_some_iff.1 hx).1;have hxe:=(List.getElem?_eq_some_iff.1 hx).2;rw [if_pos rfl,List.drop_eq_getElem_cons hlt2,hxe,getA,if_neg (by rw [hxk];exact fun e=>hn e.symm)]
 have hno:∀ b ∈ l.drop (posA l k+(if atA l k then 1 else 0)),b.name≠k:=fun b hb e=>by
  have hmem:b ∈ l.drop (posA l k):=by rw [← List.drop_drop] at hb;exact List.mem_of_mem_drop hb
  cases hd0:l.drop (posA l k) with
  | nil=>rw [hd0] at hmem;cases hmem
  | cons x r =>
   have hx0:l[posA l k]? = some x:=by
    have:(l.drop (posA l k))[0]? = some x:=by rw [hd0];rfl
    rw [List.getElem?_drop,Nat.add_zero] at this;exact this
   rw [hd0] at s2;by_cases hxk:x.name=k
   ·
    have hat:atA l k=true:=by unfold atA;rw [hx0];exact decide_eq_true hxk
    rw [hat,if_pos rfl,← List.drop_drop,hd0,List.drop_succ_cons,List.drop_zero] at hb;have:=(sortedA_cons.1 s2).1 b hb;rw [e,hxk,strLt_irr] at this;cases this
   ·
    rw [hd0] at hmem
    rcases List.mem_cons.1 hmem with rfl | hm
    · exact hxk e
    ·
     have h5:=(sortedA_cons.1 s2).1 b hm
     rw [e] at h5;have:=(hs _ _ hx0).1 h5;omega
 rw [getA_append,getA_append];by_cases hn:n=k
 ·
  subst hn
  rw [if_pos rfl,getA_none.2 hlt,getA_none.2 hno];unfold valO;cases hv:v.toList.isEmpty <;> simp [getA]
 ·
  rw [if_neg hn,hdr n hn]
  have e1:getA (if v.toList.isEmpty=true then [] else [(⟨k,v⟩:Attr)]) n=none:=by
   cases hv:v.toList.isEmpty
   · simp only [Bool.false_eq_true,if_false];rw [getA,if_neg (fun e=>hn e.symm)];rfl
   · rfl
  rw [e1,Option.none_or,← getA_append,List.take_append_drop]
theorem setA_comm {l:List Attr} (h:sortedA l=true) {k k':ByteArray} (hne:k≠k') (v v':ByteArray):setA (setA l k v) k' v'=setA (setA l k' v') k v:=by
 refine sorted_ext (setA_sorted (setA_sorted h _ _) _ _) (setA_sorted (setA_sorted h _ _) _ _) fun n=>?_
 rw [getA_set (setA_sorted h _ _),getA_set h,getA_set (setA_sorted h _ _),getA_set h];by_cases h1:n=k
 ·
  subst h1
  rw [if_pos rfl,if_neg hne,if_pos rfl]
 · rw [if_neg h1,if_neg h1]
def putAll (ps:List (ByteArray × ByteArray)):List Attr:=ps.foldl (fun l p=>setA l p.1 p.2) []
theorem putAll_snoc (ps:List (ByteArray × ByteArray)) (k v:ByteArray):putAll (ps ++ [(k,v)])=setA (putAll ps) k v:=by
 unfold putAll;rw [List.foldl_append];rfl
theorem foldl_sorted:∀ (ps:List (ByteArray × ByteArray)) {l:List Attr},sortedA l=true→sortedA (ps.foldl (fun l p=>setA l p.1 p.2) l)=true
 | [],_,h=>h
 | p :: ps,l,h=>foldl_sorted ps (setA_sorted h p.1 p.2)
theorem putAll_sorted (ps:List (ByteArray × ByteArray)):sortedA (putAll ps)=true:=foldl_sorted ps rfl
theorem foldl_mem:∀ (ps:List (ByteArray × ByteArray)) {l:List Attr} {a:Attr},a ∈ ps.foldl (fun l p=>setA l p.1 p.2) l→a ∈ l∨(a.name,a.value) ∈ ps
 | [],_,_,h=>.inl h
 | p :: ps,l,a,h=>by
  rcases foldl_mem ps h with h | h
  ·
   rcases setA_mem l p.1 p.2 a h with h | h
   · exact .inr (by rw [h];exact List.mem_cons_self)
   · exact .inl h
  · exact .inr (List.mem_cons_of_mem _ h)
theorem putAll_mem {ps:List (ByteArray × ByteArray)} {a:Attr} (h:a ∈ putAll ps):(a.name,a.value) ∈ ps:=by
 rcases foldl_mem ps h with h | h
 · cases h
 · exact h
def putA (l:List Attr) (k v:ByteArray):List Attr:=if v.toList.isEmpty then l else setA l k v
theorem putA_set {ps:List (ByteArray × ByteArray)} {k v:ByteArray} (h:k ∉ ps.map (·.1)):putA (putAll ps) k v=putAll (ps ++ [(k,v)]):=by
 rw [putAll_snoc];unfold putA;cases hv:v.toList.isEmpty with
 | false=>rfl
 | true =>
  simp only [if_true];exact (set_none (fun a ha e=>h (by have:=putAll_mem ha;rw [e] at this;exact List.mem_map_of_mem this)) hv).symm
theorem putAll_len (ps:List (ByteArray × ByteArray)):(putAll ps).length≤ps.length:=by
 have:∀ (ps:List (ByteArray × ByteArray)) (l:List Attr),(ps.foldl (fun l p=>setA l p.1 p.2) l).length≤l.length+ps.length:=by
  intro ps;induction ps with
  | nil=>intro l;simp
  | cons p ps ih =>
   intro l;have h1:=ih (setA l p.1 p.2);have h2:=setA_len l p.1 p.2;rw [List.foldl_cons,List.length_cons];omega
 have h:=this ps [];rw [List.length_nil,Nat.zero_add] at h;exact h
end Go.Cold
namespace Go.Cold
open Go Go.RowKit Go.Proofs.YtjgllhlilbchpaaGreatDoor
def kDevname:ByteArray:=⟨#[68,69,86,78,65,77,69]⟩
def kDevpath:ByteArray:=⟨#[68,69,86,80,65,84,72]⟩
def kDriver:ByteArray:=⟨#[68,82,73,86,69,82]⟩
def kInterface:ByteArray:=⟨#[73,78,84,69,82,70,65,67,69]⟩
def kModalias:ByteArray:=⟨#[77,79,68,65,76,73,65,83]⟩
def kNumber:ByteArray:=⟨#[78,85,77,66,69,82]⟩
def kSubsystem:ByteArray:=⟨#[83,85,66,83,89,83,84,69,77]⟩
def kIdPath:ByteArray:=⟨#[73,68,95,80,65,84,72]⟩
def kIdTag:ByteArray:=⟨#[73,68,95,80,65,84,72,95,84,65,71]⟩
def kFsLabel:ByteArray:=⟨#[73,68,95,70,83,95,76,65,66,69,76]⟩
def kFsUsage:ByteArray:=⟨#[73,68,95,70,83,95,85,83,65,71,69]⟩
def kFsUuid:ByteArray:=⟨#[73,68,95,70,83,95,85,85,73,68]⟩
def kOnboard:ByteArray:=⟨#[73,68,95,78,69,84,95,78,65,77,69,95,79,78,66,79,65,82,68]⟩
def kSlot:ByteArray:=⟨#[73,68,95,78,69,84,95,78,65,77,69,95,83,76,79,84]⟩
def kMac:ByteArray:=⟨#[73,68,95,78,69,84,95,78,65,77,69,95,77,65,67]⟩
def tFile:ByteArray:=⟨#[102,105,108,101,115,121,115,116,101,109]⟩
def tRaid:ByteArray:=⟨#[114,97,105,100]⟩
def tCrypto:ByteArray:=⟨#[99,114,121,112,116,111]⟩
def tMember:ByteArray:=⟨#[109,101,109,98,101,114]⟩
def tTable:ByteArray:=⟨#[116,97,98,108,101]⟩
def aIndex:ByteArray:=⟨#[105,110,100,101,120]⟩
def aSlot:ByteArray:=⟨#[115,108,111,116]⟩
def aAddress:ByteArray:=⟨#[97,100,100,114,101,115,115]⟩
def pEno:ByteArray:=⟨#[101,110,111]⟩
def pEns:ByteArray:=⟨#[101,110,115]⟩
def pEnx:ByteArray:=⟨#[101,110,120]⟩
def itoaT (n:Int):ByteArray:=⟨(Lib.itoa n).toArray⟩
def baseP (o:ByteArray) (d:Dev):List (ByteArray × ByteArray) :=
 [(kDevpath,o),(kSubsystem,d.sub),(kDriver,d.drv),(kModalias,d.ali)] ++ ((if (nodeD d).isSome then [(kDevname,nodeV d),(kNumber,itoaT d.num)] else []) ++ (if d.kind=4 then [(kInterface,d.orig)] else []))
def baseL (L:List Dev) (n:Int):List Attr:=match findD L n with | none=>[] | some d=>putAll (baseP (strF L n) d)
def partT (d:Dev):ByteArray:=(d.sub ++ ⟨#[58]⟩) ++ d.orig
def preT:List Dev→ByteArray
 | []=>ByteArray.empty
 | d :: r=>(preT r ++ partT d) ++ ⟨#[45]⟩
def rpT:List Dev→ByteArray
 | []=>ByteArray.empty
 | d :: r=>preT r ++ partT d
def cutT (s:ByteArray):ByteArray:=s.extract 0 (min s.size 256)
def alnumB (x:UInt8):Bool:=upperL.contains x || (lowerL.contains x || digitL.contains x)
def tagT (s:ByteArray):ByteArray:=⟨(s.data.toList.map fun x=>if alnumB x then x else 95).toArray⟩
def pathA (s:ByteArray):List Attr:=[⟨kIdPath,s⟩,⟨kIdTag,tagT s⟩]
def pathL (L:List Dev) (n:Int):List Attr:=match findD L n with | none=>[] | some _=>pathA (cutT (rpT (chainO L n)))
theorem app_empty (a:ByteArray):ByteArray.empty ++ a=a:=by apply ba_ext;rw [app_data];rfl
theorem app_assoc (a b c:ByteArray):(a ++ b) ++ c=a ++ (b ++ c):=by apply ba_ext;simp only [app_data,List.append_assoc]
theorem pre_step {r:List Dev} {j:Nat} (hj:j<r.length) (x:ByteArray):preT (r.drop j) ++ x=preT (r.drop (j+1)) ++ ((partT r[j] ++ ⟨#[45]⟩) ++ x):=by
 rw [List.drop_eq_getElem_cons hj,preT,app_assoc,app_assoc,app_assoc]
theorem pre_drop {l:List Dev} {j:Nat} (hj:j<l.length):preT (l.drop j)=(preT (l.drop (j+1)) ++ partT l[j]) ++ ⟨#[45]⟩:=by
 rw [List.drop_eq_getElem_cons hj,preT]
theorem rp_zero {l:List Dev} (h:0<l.length):rpT l=preT (l.drop 1) ++ partT l[0]:=by
 obtain ⟨d,r,rfl⟩:=List.length_pos_iff_exists_cons.1 h;rfl
def usageT (k:Int):ByteArray:=if k=1 then tFile else if k=2 then tRaid else if k=3 then tCrypto else if k=4 then tMember else tTable
def contA (c:Cont):List Attr:=if c.kind=0 then [] else putAll [(kFsLabel,c.label),(kFsUsage,usageT c.kind),(kFsUuid,c.id)]
noncomputable def contAt (d:Dev):List Attr:=if d.kind=2 then (match parseC (contD d) with | some c=>contA c | none=>[]) else []
noncomputable def contL (L:List Dev) (n:Int):List Attr:=contAt ((findD L n).getD zeroD)
theorem cont_order (c:Cont) (h:c.kind≠0):putA (putA (putA [] kFsUsage (usageT c.kind)) kFsUuid c.id) kFsLabel c.label=contA c:=by
 rw [show ([]:List Attr)=putAll [] from rfl,putA_set (by simp),putA_set (by simp;decide +kernel),putA_set (by simp;decide +kernel)];unfold contA;rw [if_neg h];show setA (setA (setA [] kFsUsage _) kFsUuid _) kFsLabel _=setA (setA (setA [] kFsLabel _) kFsUsage _) kFsUuid _
 rw [setA_comm (setA_sorted rfl _ _) (by decide +kernel),setA_comm (l:=[]) rfl (show kFsUsage≠kFsLabel by decide +kernel)]
def noColon (s:ByteArray):ByteArray:=⟨(s.data.toList.filter fun x=>decide (x≠58)).toArray⟩
def netV (d:Dev) (p a:ByteArray):ByteArray:=if a=aAddress then p ++ noColon ((getA d.attrs a).getD ByteArray.empty) else p ++ (getA d.attrs a).getD ByteArray.empty
def netOk (d:Dev) (p a:ByteArray):Bool:=(getA d.attrs a).isSome && ifaceB (netV d p a)
def netP (d:Dev):List (ByteArray × ByteArray × ByteArray)→List (ByteArray × ByteArray)
 | []=>[]
 | (k,p,a) :: r=>(if netOk d p a then [(k,netV d p a)] else []) ++ netP d r
def netT:List (ByteArray × ByteArray × ByteArray):=[(kOnboard,pEno,aIndex),(kSlot,pEns,aSlot),(kMac,pEnx,aAddress)]
def netAt (d:Dev):List Attr:=if d.kind=4 then putAll (netP d netT) else []
def netL (L:List Dev) (n:Int):List Attr:=netAt ((findD L n).getD zeroD)
theorem netP_keys (d:Dev):∀ (t:List (ByteArray × ByteArray × ByteArray)) (p:ByteArray × ByteArray),p ∈ netP d t→p.1 ∈ t.map (·.1)
 | [],p,h=>by cases h
 | (k,q,a) :: r,p,h=>by
  rw [netP,List.mem_append] at h;rcases h with h | h
  ·
   split at h
   · rw [List.mem_singleton] at h;rw [h];simp
   · cases h
  · rw [List.map_cons];exact List.mem_cons_of_mem _ (netP_keys d r p h)
theorem netP_snoc (d:Dev):∀ (t:List (ByteArray × ByteArray × ByteArray)) (k p a:ByteArray),netP d (t ++ [(k,p,a)])=netP d t ++ (if netOk d p a then [(k,netV d p a)] else [])
 | [],k,p,a=>by simp [netP]
 | (k',p',a') :: r,k,p,a=>by rw [List.cons_append,netP,netP_snoc d r,netP,List.append_assoc]
end Go.Cold
namespace Go.Cold
open Go Go.RowKit Go.Proofs.YtjgllhlilbchpaaGreatDoor
theorem cut_data (s:ByteArray):(cutT s).data.toList=s.data.toList.take 256:=by
 unfold cutT;rw [ByteArray.data_extract,Array.toList_extract,List.extract_eq_take_drop,List.drop_zero,Nat.sub_zero];rw [← ba_size];by_cases h:s.data.toList.length≤256
 · rw [Nat.min_eq_left h,List.take_length,List.take_of_length_le h]
 · rw [Nat.min_eq_right (by omega)]
theorem cut_small {s:ByteArray} (h:s.size≤256):cutT s=s:=by
 apply ba_ext
 rw [cut_data,List.take_of_length_le (by rw [ba_size];exact h)]
theorem cut_size (s:ByteArray):(cutT s).size=min 256 s.size:=by rw [← ba_size,cut_data,List.length_take,ba_size]
theorem cut_prefix (s:ByteArray):(cutT s).data.toList <+: s.data.toList:=by rw [cut_data];exact List.take_prefix _ _
-- what may be printed
theorem print_app {a b:ByteArray}:printB (a ++ b)=(printB a && printB b):=by unfold printB;rw [app_data,List.all_append]
theorem valid_print {s:ByteArray} (h:validB s=true):printB s=true:=by
 unfold validB at h;simp only [Bool.and_eq_true] at h;have hl:∀ x:UInt8,nameL.contains x=true→printP x=true:=by
  have hall:∀ n:Fin 256,nameL.contains (UInt8.ofNat n.val)=true→printP (UInt8.ofNat n.val)=true:=by decide +kernel
  intro x;have:=hall ⟨x.toNat,UInt8.toNat_lt x⟩;simpa using this
 have h4:=h.2.2.2;unfold printB;rw [List.all_eq_true];intro x hx;refine hl x ?_;unfold inB at h4;rw [List.all_eq_true] at h4;exact h4 x hx
end Go.Cold
namespace Go.Cold
open Go Go.RowKit Go.Proofs.YtjgllhlilbchpaaGreatDoor
theorem part_print {d:Dev} (h:checkD d=0):printB (partT d)=true∧(partT d).toList.isEmpty=false∧(partT d).size≤65:=by
 obtain ⟨c1,c2,c3,c4,c5⟩:=check_names h;have s2:=valid_size c2;have s3:=valid_size c3;unfold partT;refine ⟨by rw [print_app,print_app,valid_print c3,valid_print c2];decide +kernel,by rw [Lib.toList_data,app_data,app_data];simp,?_⟩;rw [ByteArray.size_append,ByteArray.size_append];have h5:(⟨#[58]⟩:ByteArray).size=1:=rfl;omega
theorem pre_print:∀ {l:List Dev},(∀ d ∈ l,checkD d=0)→printB (preT l)=true∧(preT l).size≤l.length * 66
 | [],_=>⟨by decide +kernel,by show (0:Nat)≤_;omega⟩
 | d :: r,h=>by
  obtain ⟨p1,p2,p3⟩:=part_print (h d List.mem_cons_self);obtain ⟨i1,i2⟩:=pre_print (fun x hx=>h x (List.mem_cons_of_mem _ hx));rw [preT];refine ⟨by rw [print_app,print_app,i1,p1];decide +kernel,?_⟩;rw [ByteArray.size_append,ByteArray.size_append,List.length_cons];have h5:(⟨#[45]⟩:ByteArray).size=1:=rfl;omega
theorem rp_print {l:List Dev} (h:∀ d ∈ l,checkD d=0) (h0:l≠[]):printB (rpT l)=true∧(rpT l).toList.isEmpty=false∧(rpT l).size≤l.length * 66:=by
 cases l with
 | nil=>exact absurd rfl h0
 | cons d r =>
  obtain ⟨p1,p2,p3⟩:=part_print (h d List.mem_cons_self);obtain ⟨i1,i2⟩:=pre_print (l:=r) (fun x hx=>h x (List.mem_cons_of_mem _ hx));rw [rpT];refine ⟨by rw [print_app,i1,p1];rfl,?_,?_⟩
  ·
   rw [Lib.toList_data] at p2 ⊢
   rw [app_data];cases hq:(preT r).data.toList with
   | nil=>exact p2
   | cons a b=>rfl
  · rw [ByteArray.size_append,List.length_cons];omega
theorem cut_text {s:ByteArray} (h:printB s=true) (h0:s.toList.isEmpty=false):textB (cutT s)=true∧(cutT s).toList.isEmpty=false:=by
 constructor
 ·
  unfold textB
  rw [Bool.and_eq_true];constructor
  ·
   unfold printB at h ⊢
   rw [List.all_eq_true] at h ⊢;exact fun x hx=>h x ((cut_prefix s).subset hx)
  · exact decide_eq_true (by rw [cut_size];omega)
 ·
  rw [Lib.toList_data] at h0 ⊢
  rw [cut_data];cases hq:s.data.toList with
  | nil=>rw [hq] at h0;cases h0
  | cons a b=>rfl
theorem chain_chk {L:List Dev} (h:VT L) (n:Int):∀ d ∈ chainO L n,checkD d=0:=fun d hd=>h.chk d (chain_mem L _ n d hd)
theorem chain_full {L:List Dev} (h:VT L) {n:Int} {d:Dev} (hf:findD L n=some d):chainO L n≠[]:=by
 obtain ⟨hd,hn⟩:=find_some hf;rw [← hn,chainO_cons h.wf hd];simp
-- a change of driver and name
end Go.Cold
namespace Go.Cold
open Go Go.RowKit Go.Proofs.YtjgllhlilbchpaaGreatDoor
def tagR (r:Int):Int:=if (65≤r∧r≤90)∨(97≤r∧r≤122)∨(48≤r∧r≤57) then r else 95
theorem tagR_range (x:Nat) (h:x≤1114111):0≤tagR x∧tagR x≤2147483647:=by unfold tagR;split <;> omega
theorem alnum_iff (x:UInt8):alnumB x=decide ((65≤x.toNat∧x.toNat≤90)∨(97≤x.toNat∧x.toNat≤122)∨(48≤x.toNat∧x.toNat≤57)):=by
 have hall:∀ n:Fin 256,alnumB (UInt8.ofNat n.val)=decide ((65≤n.val∧n.val≤90)∨(97≤n.val∧n.val≤122)∨(48≤n.val∧n.val≤57)):=by decide +kernel
 have:=hall ⟨x.toNat,UInt8.toNat_lt x⟩;simpa using this
theorem enc_one (x:UInt8) (h:x.toNat≤127):Lib.encodeRune (x.toNat:Int)=[x]:=by
 unfold Lib.encodeRune;rw [Lib.encodeRuneZ_one (by omega) (by omega)];simp
theorem mapD_tag:∀ (l:List UInt8),l.all printP=true→Lib.mapD tagR l=l.map fun x=>if alnumB x then x else 95
 | [],_=>Lib.mapD_nil _
 | b :: l,h=>by
  rw [List.all_cons,Bool.and_eq_true] at h;have hb:b.toNat≤126:=by have:=h.1;unfold printP at this;simp only [Bool.and_eq_true,decide_eq_true_eq] at this;exact this.2
  rw [Lib.mapD_step _ _ (by simp),Lib.decodeL_ascii b l (by omega),List.map_cons];show (if 0≤tagR (b.toNat:Int) then Lib.encodeRune (tagR (b.toNat:Int)) else []) ++ Lib.mapD tagR ((b :: l).drop 1)=_
  rw [List.drop_succ_cons,List.drop_zero,mapD_tag l h.2,if_pos (tagR_range b.toNat (by omega)).1,alnum_iff];unfold tagR;by_cases hq:(65≤b.toNat∧b.toNat≤90)∨(97≤b.toNat∧b.toNat≤122)∨(48≤b.toNat∧b.toNat≤57)
  ·
   rw [if_pos (by omega),decide_eq_true hq,if_pos rfl,enc_one b (by omega)]
   rfl
  ·
   rw [if_neg (by omega),decide_eq_false hq]
   have h95:Lib.encodeRune 95=[95]:=enc_one 95 (by decide);rw [h95];rfl
theorem map_tag {s:ByteArray} (h:textB s=true):(⟨(Lib.mapD tagR s.data.toList).toArray⟩:ByteArray)=tagT s:=by
 unfold textB printB at h;rw [Bool.and_eq_true] at h;unfold tagT;rw [mapD_tag _ h.1]
end Go.Cold
namespace Go.Cold
open Go Go.RowKit
theorem findD_small {L:List Dev} (hv:VT L) (n:Int):((findD L n).getD zeroD).orig.size≤32:=by
 cases h:findD L n with
 | none=>show (0:Nat)≤32;omega
 | some d=>exact (hv.small d (find_some h).1).1
end Go.Cold
namespace Go.Proofs.YtjgllhlilbchpaaGreatDoor
open Go.RowKit Go.Cold
end Go.Proofs.YtjgllhlilbchpaaGreatDoor
