/-
  The walks of coldplugmake's Fold and Tape.
-/
import Derived.Test.YtjgllhlilbchpaaGreatDoorQA
import Derived.Test.YtjgllhlilbchpaaGreatDoorQD
import Derived.Test.YtjgllhlilbchpaaGreatDoorQSA
import Derived.Test.YtjgllhlilbchpaaGreatDoorQTK
import Derived.Lib.IndexAny
import Derived.Test.YtjgllhlilbchpaaGreatDoorQSB
import Derived.Lib.Join
import Derived.Lib.ItoaNum
import Derived.BigQuiet
import Derived.Lib.AtoiAllCases
import Derived.Lib.AppendIntMem
import Derived.Lib.SmallJoins
set_option linter.unusedSimpArgs false
set_option linter.unusedVariables false
namespace Go.Cold
open Go Go.RowKit
end Go.Cold
namespace Go.Proofs.YtjgllhlilbchpaaGreatDoor
open Go.RowKit Go.Cold

end Go.Proofs.YtjgllhlilbchpaaGreatDoor
namespace Go.Cold
open Go Go.RowKit
def CurAt (w:World) (b:Nat) (s:ByteArray) (k:Nat) (bad:Bool):Prop:=w.cell? ⟨b,0,none⟩=some (.string s)∧w.cell? ⟨b,1,none⟩=some (.int .i64 k)∧w.cell? ⟨b,2,none⟩=some (.bool bad)∧
 (∀ j,w.frozen? ⟨b,j,none⟩=false)∧b<w.heap.size
def skipB (s:ByteArray) (k:Nat) (t:ByteArray):Bool:=Lib.hasPrefix (s.extract k s.size).data.toList t.data.toList
theorem skipB_le {s t:ByteArray} {k:Nat} (hk:k≤s.size) (h:skipB s k t=true):k+t.size≤s.size:=by
 unfold skipB Lib.hasPrefix at h;have h1:=(List.isPrefixOf_iff_prefix.1 h).length_le;rw [ba_size,ba_size,ByteArray.size_extract] at h1;omega
end Go.Cold
namespace Go.Proofs.YtjgllhlilbchpaaGreatDoor
open Go.RowKit Go.Cold

theorem quiet_same {P:Program} {f:FuncId} {args:Array Value} {w:World} {n:Nat} {v:Value}
  (h:Calls P f args (w.drewN n) fun e w'=>e=.returned v∧w'=w.drewN n):Calls P f args (w.drewN n) fun e w''=>e=.returned v∧∃ m,w''=w.drewN m :=
 h.mono fun _ _ ⟨he,hm⟩=>⟨he,n,hm⟩
theorem cur_step {w:World} {b k:Nat} {s:ByteArray} {bad:Bool} (nq:Nat) (m:Nat) (h:CurAt w b s k bad):CurAt ((w.setCell ⟨b,1,none⟩ (.int .i64 ((k:Int)+m))).drewN nq) b s (k+m) bad∧w.grownBy ((w.setCell ⟨b,1,none⟩ (.int .i64 ((k:Int)+m))).drewN nq) (some b):=by
 obtain ⟨h0,h1,h2,hf,hlt⟩:=h;refine ⟨⟨?_,?_,?_,fun j=>?_,by simpa using hlt⟩,grown_next nq hlt⟩
 · exact (World.cell?_setCell_other w ⟨b,1,none⟩ ⟨b,0,none⟩ _ (fun e=>by injection e with _ e;cases e)).trans h0
 · exact (set_at w _ _ (by rw [h1];rfl)).trans (by simp)
 · exact (World.cell?_setCell_other w ⟨b,1,none⟩ ⟨b,2,none⟩ _ (fun e=>by injection e with _ e;cases e)).trans h2
 · exact (World.frozen?_setCell w _ _ _).trans (hf j)
theorem cur_stay {w:World} {b k:Nat} {s:ByteArray} {bad:Bool} (nq:Nat) (h:CurAt w b s k bad):CurAt (w.drewN nq) b s k bad∧w.grownBy (w.drewN nq) (some b) :=
 ⟨h,⟨rfl,rfl,rfl,Nat.le_refl _,fun _ _ _=>rfl⟩⟩

def SkipPost (s:ByteArray) (k:Nat) (t:ByteArray) (b:Nat) (bad:Bool) (w:World) (e:Ending) (w':World):Prop:=e=.returned (.bool (skipB s k t))∧CurAt w' b s (if skipB s k t then k+t.size else k) bad∧w.grownBy w' (some b)
set_option maxRecDepth 10000 in
theorem skip_any (s t:ByteArray) (k b:Nat) (bad:Bool) (w:World) (hs:s.size≤1000) (hk:k≤s.size) (hc:CurAt w b s k bad):Calls Tryz.prog 173 #[.pointer (some ⟨b,0,none⟩),.string t] w (SkipPost s k t b bad w):=by
 obtain ⟨h0,h1,h2,hf,hlt⟩:=id hc;have HC:=Lh_ hc;clear hc;have i1:(k:Int)≤(s.size:Int):=by omega
 cases hq:skipB s k t with
 | true =>
  have hle:=skipB_le hk hq;have hq':Lib.hasPrefix (s.extract k s.size).data.toList t.data.toList=true:=hq;have hq2:=hq';rw [Lib.extract_data] at hq2;have i2:(k:Int)+(t.size:Int)≤1000:=by omega
  have HQ:=Lh_ hq;clear hq;go_enter Tryz.func173,Tryz.ntmps173;go_wp2_with fail;go_quiet ((go_at_call 13;exact quiet_same (Tryz.strings_HasPrefix _ _ _)))
  go_wp2;go_ret;refine ⟨ret_bool HQ.out.symm,?_⟩;rw [HQ.out,if_pos rfl];exact cur_step _ t.size HC.out
 | false =>
  have hq':Lib.hasPrefix (s.extract k s.size).data.toList t.data.toList=false:=hq;have hq2:=hq';rw [Lib.extract_data] at hq2;have HQ:=Lh_ hq;clear hq;go_enter Tryz.func173,Tryz.ntmps173;go_wp2_with fail;go_quiet ((go_at_call 13;exact quiet_same (Tryz.strings_HasPrefix _ _ _)))
  go_wp2;go_ret;refine ⟨ret_bool HQ.out.symm,?_⟩;rw [HQ.out,if_neg (by decide)];exact cur_stay _ HC.out

theorem cur_bad {w:World} {b k:Nat} {s:ByteArray} {bad:Bool} (bad':Bool) (h:CurAt w b s k bad):CurAt (w.setCell ⟨b,2,none⟩ (.bool bad')) b s k bad'∧w.grownBy (w.setCell ⟨b,2,none⟩ (.bool bad')) (some b):=by
 obtain ⟨h0,h1,h2,hf,hlt⟩:=h;refine ⟨⟨?_,?_,?_,fun j=>?_,by simpa using hlt⟩,⟨rfl,rfl,rfl,by simp,fun q _ hne=>Below.heap_setCell _ _ _ _ (fun e=>hne (by rw [e]))⟩⟩
 · exact (World.cell?_setCell_other w ⟨b,2,none⟩ ⟨b,0,none⟩ _ (fun e=>by injection e with _ e;cases e)).trans h0
 · exact (World.cell?_setCell_other w ⟨b,2,none⟩ ⟨b,1,none⟩ _ (fun e=>by injection e with _ e;cases e)).trans h1
 · exact set_at w _ _ (by rw [h2];rfl)
 · exact (World.frozen?_setCell w _ _ _).trans (hf j)
def WantPost (s:ByteArray) (k:Nat) (t:ByteArray) (b:Nat) (bad:Bool) (w:World) (_:Ending) (w':World):Prop:=CurAt w' b s (if skipB s k t then k+t.size else k) (!skipB s k t || bad)∧w.grownBy w' (some b)
set_option maxRecDepth 10000 in
theorem want_any (s t:ByteArray) (k b:Nat) (bad:Bool) (w:World) (hs:s.size≤1000) (hk:k≤s.size) (hc:CurAt w b s k bad):Calls Tryz.prog 142 #[.pointer (some ⟨b,0,none⟩),.string t] w fun e w'=>e=.returned (.tuple #[])∧WantPost s k t b bad w e w':=by
 have hcall:=skip_any s t k b bad w hs hk hc;have HCALL:=Lh_ hcall;clear hcall hc;go_enter Tryz.func142,Tryz.ntmps142;go_wp2_with fail;refine HCALL.out.mono ?_;rintro e w1 ⟨rfl,hc1,hg1⟩;cases hq:skipB s k t with
 | true =>
  rw [hq,if_pos rfl] at hc1;obtain ⟨h0,h1,h2,hf,hlt⟩:=id hc1;have HC:=Lh_ hc1;clear hc1;have HG:=Lh_ hg1;clear hg1;have HQ:=Lh_ hq;clear hq;go_wp2;go_end0
  obtain ⟨q1,q2⟩:=cur_bad bad HC.out;refine ⟨rfl,?_,grown_trans HG.out q2⟩;rw [HQ.out,if_pos rfl];exact q1
 | false =>
  rw [hq,if_neg (by decide)] at hc1;obtain ⟨h0,h1,h2,hf,hlt⟩:=id hc1;have HC:=Lh_ hc1;clear hc1;have HG:=Lh_ hg1;clear hg1;have HQ:=Lh_ hq;clear hq;go_wp2;go_end0
  obtain ⟨q1,q2⟩:=cur_bad true HC.out;refine ⟨rfl,?_,grown_trans HG.out q2⟩;rw [HQ.out,if_neg (by decide)];exact q1
end Go.Proofs.YtjgllhlilbchpaaGreatDoor
namespace Go.Cold
open Go Go.RowKit
def untilN (r ends:ByteArray):Nat:=if Lib.indexAny r.data.toList ends.data.toList<0 then r.size else (Lib.indexAny r.data.toList ends.data.toList).toNat
theorem CurAt.below {w w':World} {b k:Nat} {s:ByteArray} {bad:Bool} (h:CurAt w b s k bad) (hb:Below w.heap.size w w'):CurAt w' b s k bad∧w.grownBy w' (some b):=by
 obtain ⟨h0,h1,h2,hf,hlt⟩:=h;refine ⟨⟨(hb.cell (p:=⟨b,0,none⟩) hlt).trans h0,(hb.cell (p:=⟨b,1,none⟩) hlt).trans h1,(hb.cell (p:=⟨b,2,none⟩) hlt).trans h2,fun j=>(hb.frozen (p:=⟨b,j,none⟩) hlt).trans (hf j),by have:=hb.size;omega⟩,hb.os,hb.tape,hb.output,hb.size,fun q hq _=>hb.block q hq⟩
end Go.Cold
namespace Go.Proofs.YtjgllhlilbchpaaGreatDoor
open Go.RowKit Go.Cold

def UntilPost (s ends:ByteArray) (k b:Nat) (bad:Bool) (w:World) (e:Ending) (w':World):Prop:=e=.returned (.string ((s.extract k s.size).extract 0 (untilN (s.extract k s.size) ends)))∧
 CurAt w' b s (k+untilN (s.extract k s.size) ends) bad∧w.grownBy w' (some b)
set_option maxRecDepth 10000 in
theorem until_any (s ends:ByteArray) (k b:Nat) (bad:Bool) (w:World) (hs:s.size≤1000) (hk:k≤s.size) (hc:CurAt w b s k bad)
  (hlen:untilN (s.extract k s.size) ends≤(s.extract k s.size).size)
  (hix:∀ W,Calls Tryz.prog 153 #[.string (s.extract k s.size),.string ends] W fun e W'=>e=.returned (.int .i64 (Lib.indexAny (s.extract k s.size).data.toList ends.data.toList))∧Below W.heap.size W W') :
  Calls Tryz.prog 141 #[.pointer (some ⟨b,0,none⟩),.string ends] w (UntilPost s ends k b bad w):=by
 obtain ⟨h0,h1,h2,hf,hlt⟩:=id hc;have HC:=Lh_ hc;clear hc;have HIX:=Lh_ hix;clear hix;have i1:(k:Int)≤(s.size:Int):=by omega
 have hrs:(s.extract k s.size).size=s.size - k:=by rw [ByteArray.size_extract];omega
 have HLEN:=Lh_ hlen;clear hlen;have HRS:=Lh_ hrs;clear hrs;go_enter Tryz.func141,Tryz.ntmps141;go_wp2_with fail;go_quiet (fail)
 obtain ⟨c1,g1⟩:=cur_stay nq HC.out;obtain ⟨r,hr⟩:∃ r,s.extract k s.size=r:=⟨_,rfl⟩;rw [hr] at HIX HLEN HRS ⊢;have HR:=Lh_ hr;clear hr;have HC1:=Lh_ c1;have HG1:=Lh_ g1;clear c1 g1;go_wp2_with fail;refine (HIX.out _).mono ?_;rintro e w1 ⟨rfl,hb1⟩;obtain ⟨c2,g2⟩:=HC1.out.below hb1;obtain ⟨p0,p1,p2,pf,plt⟩:=id c2;have hun:untilN r ends=if Lib.indexAny r.data.toList ends.data.toList<0 then r.size else (Lib.indexAny r.data.toList ends.data.toList).toNat:=rfl
 have hl:=HLEN.out;have hrs:=HRS.out;obtain ⟨z,hz⟩:∃ z,Lib.indexAny r.data.toList ends.data.toList=z:=⟨_,rfl⟩;rw [hz] at hun ⊢;have HC2:=Lh_ c2;have HG2:=Lh_ g2;clear c2 g2 hb1 h0 h1 h2 hf hlt;by_cases hz0:z<0
 ·
  rw [if_pos hz0] at hun
  have HUN:=Lh_ hun;clear hun hl hz;have i2:(k:Int)+(r.size:Int)≤1000:=by omega
  have HRS2:=Lh_ hrs;clear hrs;go_wp2;go_ret;obtain ⟨q1,q2⟩:=cur_step 0 r.size HC2.out;unfold UntilPost;rw [HR.out,HUN.out];refine ⟨ret_str ?_,q1,grown_trans (grown_trans HG1.out HG2.out) q2⟩;exact (ByteArray.extract_zero_size (b:=r)).symm
 ·
  rw [if_neg hz0] at hun
  obtain ⟨m,rfl⟩:=Int.eq_ofNat_of_zero_le (show 0≤z by omega);rw [Int.toNat_natCast] at hun;rw [hun] at hl;have HUN:=Lh_ hun;clear hun hz;have i2:(m:Int)≤(r.size:Int):=by omega
  have i3:(k:Int)+(m:Int)≤1000:=by omega
  have HRS2:=Lh_ hrs;clear hrs;go_wp2;go_ret;obtain ⟨q1,q2⟩:=cur_step 0 m HC2.out;unfold UntilPost;rw [HR.out,HUN.out];exact ⟨rfl,q1,grown_trans (grown_trans HG1.out HG2.out) q2⟩
end Go.Proofs.YtjgllhlilbchpaaGreatDoor
namespace Go.Cold
open Go Go.RowKit
def numT (n:Int):ByteArray:=⟨(Lib.decDigits n.toNat).toArray⟩
def commaB (xs:List ByteArray):ByteArray:=⟨(Lib.join (xs.map (·.data.toList)) [44]).toArray⟩
mutual
def textC:Cont→ByteArray
 | .mk k i l s t e xs =>
  if k=1 then ((⟨#[102,115,58]⟩ ++ i) ++ ⟨#[58]⟩) ++ l
  else if k=2 then ((((((⟨#[114,97,105,100,58]⟩ ++ i) ++ ⟨#[58]⟩) ++ numT s) ++ ⟨#[47]⟩ ++ numT t) ++ ⟨#[47]⟩) ++ numT e) ++ ((⟨#[40]⟩ ++ commaB (textL xs)) ++ ⟨#[41]⟩)
  else if k=3 then (⟨#[99,114,121,112,116,58]⟩ ++ i) ++ ((⟨#[40]⟩ ++ commaB (textL xs)) ++ ⟨#[41]⟩)
  else if k=4 then (((((⟨#[112,118,58]⟩ ++ i) ++ ⟨#[58]⟩) ++ numT s) ++ ⟨#[47]⟩) ++ numT t) ++ ((⟨#[40]⟩ ++ commaB (textL xs)) ++ ⟨#[41]⟩)
  else if k=5 then (⟨#[116,97,98,108,101,58]⟩ ++ i) ++ ((⟨#[40]⟩ ++ commaB (textL xs)) ++ ⟨#[41]⟩)
  else ⟨#[]⟩
def textL:List Cont→List ByteArray
 | []=>[]
 | x :: xs=>textC x :: textL xs
end
theorem textL_app (x:Cont):∀ xs:List Cont,textL (xs ++ [x])=textL xs ++ [textC x]
 | []=>by rw [List.nil_append,textL,textL,textL,List.nil_append]
 | y :: ys=>by rw [List.cons_append,textL,textL,textL_app x ys,List.cons_append]
theorem textL_length:∀ xs:List Cont,(textL xs).length=xs.length
 | []=>by rw [textL];rfl
 | x :: xs=>by rw [textL,List.length_cons,List.length_cons,textL_length xs]
end Go.Cold
namespace Go.Proofs.YtjgllhlilbchpaaGreatDoor
open Go.RowKit Go.Cold

end Go.Proofs.YtjgllhlilbchpaaGreatDoor
namespace Go.Cold
open Go Go.RowKit
def noneB (s t e:Int):Bool:=decide (t=0) && (decide (s=0) && decide (e=0))
def slots2 (s t:Int):Bool:=c7withinB t 16 && c7withinB s t
def ownB:Cont→Bool
  | .mk k i l s t e xs=>if k=0 then i.toList.isEmpty && (l.toList.isEmpty && (noneB s t e && decide (xs.length=0))) else idB i &&
    (if k=1 then (l.toList.isEmpty || idB l) && (noneB s t e && decide (xs.length=0))
     else if k=2 then l.toList.isEmpty && (slots2 s t && (c7withinB e t && decide (xs.length=1)))
     else if k=3 then l.toList.isEmpty && (noneB s t e && decide (xs.length=1))
     else if k=4 then l.toList.isEmpty && (slots2 s t && (decide (e=0) && c7withinB xs.length 16))
     else if k=5 then l.toList.isEmpty && (noneB s t e && c7withinB xs.length 16) else false)
theorem empty_iff (l:ByteArray):l.toList=[]↔l=ByteArray.empty:=by
  have he:ByteArray.empty.toList=[]:=by decide +kernel
  have h:=ba_beq l ByteArray.empty;rw [he] at h;constructor
  · intro hl
    rw [hl] at h;exact of_decide_eq_true h.symm
  · rintro rfl;exact he
theorem isEmpty_iff (l:ByteArray):l.toList.isEmpty=true↔l=ByteArray.empty:=by
  rw [List.isEmpty_iff,empty_iff]
theorem alike_own (c:Cont):alikeB c=ownB c:=by
  obtain ⟨k,i,l,s,t,e,xs⟩:=c;rw [Bool.eq_iff_iff];unfold alikeB ownB usedC condC slots2 noneB;by_cases h0:k=0
  · simp [h0,sameC_iff,empty_iff]
    try grind
  by_cases h1:k=1
  · simp [h1,sameC_iff,empty_iff]
    try grind
  by_cases h2:k=2
  · simp [h2,sameC_iff,empty_iff]
    try grind
  by_cases h3:k=3
  · simp [h3,sameC_iff,empty_iff]
    try grind
  by_cases h4:k=4
  · simp [h4,sameC_iff,empty_iff]
    try grind
  by_cases h5:k=5
  · simp [h5,sameC_iff,empty_iff]
    try grind
  simp [h0,h1,h2,h3,h4,h5]
mutual
def refB:Nat→Cont→Bool
  | d,.mk k i l s t e xs=>refL d xs && ((decide (k=0) || decide (0<d)) && ownB (.mk k i l s t e xs))
def refL:Nat→List Cont→Bool
  | _,[]=>true
  | d,x :: xs=>(decide (0<d) && refB (d - 1) x) && refL d xs
end
theorem refL_app (d:Nat) (x:Cont):∀ xs:List Cont,refL d (xs ++ [x])=(refL d xs && (decide (0<d) && refB (d - 1) x))
  | []=>by rw [List.nil_append,refL,refL,refL];simp
  | y :: ys=>by rw [List.cons_append,refL,refL,refL_app d x ys];simp only [Bool.and_assoc]
theorem refL_bad {d:Nat} {x:Cont} {xs:List Cont} {k:Nat} (hx:xs[k]? = some x) (h:(decide (0<d) && refB (d - 1) x)=false):refL d xs=false:=by
  induction xs generalizing k with
  | nil=>simp at hx
  | cons y ys ih =>
    rw [refL];cases k with
    | zero=>simp at hx;subst hx;rw [h];rfl
    | succ k=>rw [ih (by simpa using hx)];simp
theorem own_none {i l:ByteArray} {s t e:Int} {xs:List Cont} (h:ownB (.mk 0 i l s t e xs)=true):xs=[]:=by
  unfold ownB at h;simp at h;exact h.2.2.2
mutual
theorem ref_iff:∀ (c:Cont) (d:Nat),refB d c=true↔depthC c≤d∧∀ x ∈ walkC c,alikeB x=true
  | .mk k i l s t e xs,d=>by
    rw [refB,walkC,depthC];simp only [Bool.and_eq_true,List.mem_cons,forall_eq_or_imp,alike_own,Bool.or_eq_true,decide_eq_true_eq];have hL:=refL_iff xs d;by_cases hk:k=0
    · subst hk
      constructor
      · rintro ⟨h1,-,h2⟩
        have:=own_none h2;subst this;exact ⟨by rw [if_pos rfl,depthL];omega,h2,fun x hx=>by rw [walkL] at hx;cases hx⟩
      · rintro ⟨h1,h2,h3⟩
        have:=own_none h2;subst this;exact ⟨by rw [refL],.inl rfl,h2⟩
    · rw [if_neg hk]
      constructor
      · rintro ⟨h1,h2,h3⟩
        have hd:0<d:=h2.resolve_left hk;obtain ⟨h4,h5⟩:=(hL hd).1 h1;exact ⟨by omega,h3,fun x hx=>by rw [← alike_own];exact h5 x hx⟩
      · rintro ⟨h1,h2,h3⟩
        have:=depthL_nonneg xs;have hd:0<d:=by omega
        exact ⟨(hL hd).2 ⟨by omega,fun x hx=>by rw [alike_own];exact h3 x hx⟩,.inr hd,h2⟩
theorem refL_iff:∀ (xs:List Cont) (d:Nat),0<d→(refL d xs=true↔depthL xs+1≤d∧∀ x ∈ walkL xs,alikeB x=true)
  | [],d,hd=>by rw [refL,depthL,walkL];simp;omega
  | y :: ys,d,hd=>by
    rw [refL,depthL,walkL];have h1:=ref_iff y (d - 1);have h2:=refL_iff ys d hd;simp only [Bool.and_eq_true,decide_eq_true_eq,h1,h2,List.mem_append];constructor
    · rintro ⟨⟨-,h3,h4⟩,h5,h6⟩
      exact ⟨by omega,fun x hx=>hx.elim (h4 x) (h6 x)⟩
    · rintro ⟨h3,h4⟩
      exact ⟨⟨hd,by omega,fun x hx=>h4 x (.inl hx)⟩,by omega,fun x hx=>h4 x (.inr hx)⟩
end
theorem ref_bad (c:Cont):refB 6 c = !badC c:=by
  rw [Bool.eq_iff_iff,ref_iff];unfold badC;simp
end Go.Cold
namespace Go.Cold
open Go Go.RowKit
def AllOk (c:Cont):Prop:=∀ x ∈ walkC c,ownB x=true
theorem walkL_mem {xs:List Cont} {x:Cont}:x ∈ walkL xs↔∃ y ∈ xs,x ∈ walkC y:=by
 induction xs with
 | nil=>rw [walkL];simp
 | cons z zs ih=>rw [walkL,List.mem_append,ih];simp
theorem AllOk_mk {k:Int} {i l:ByteArray} {s t e:Int} {xs:List Cont}:AllOk (.mk k i l s t e xs)↔ownB (.mk k i l s t e xs)=true∧∀ x ∈ xs,AllOk x:=by
 unfold AllOk;rw [walkC];simp only [List.mem_cons,forall_eq_or_imp,walkL_mem];constructor
 · rintro ⟨h1,h2⟩;exact ⟨h1,fun y hy x hx=>h2 x ⟨y,hy,hx⟩⟩
 · rintro ⟨h1,h2⟩;exact ⟨h1,fun x ⟨y,hy,hx⟩=>h2 y hy x hx⟩
theorem bad_of {c:Cont} (h:AllOk c) (hd:depthC c≤6):badC c=false:=by
 unfold badC;simp only [Bool.or_eq_false_iff,decide_eq_false_iff_not,List.any_eq_false];exact ⟨by omega,fun x hx=>by rw [alike_own,h x hx];simp⟩
theorem ok_of_bad {c:Cont} (h:badC c=false):AllOk c∧depthC c≤6:=by
 unfold badC at h;simp only [Bool.or_eq_false_iff,decide_eq_false_iff_not,List.any_eq_false] at h;exact ⟨fun x hx=>by have:=h.2 x hx;rw [alike_own] at this;simpa using this,by omega⟩
mutual
theorem depth_walk:∀ (c:Cont) (x:Cont),x ∈ walkC c→depthC x≤depthC c
 | .mk k i l s t e xs,x,h=>by
  rw [walkC,List.mem_cons] at h;rcases h with rfl | h
  · exact Int.le_refl _
  ·
   have:=depth_walkL xs x h
   rw [depthC];split <;> omega
theorem depth_walkL:∀ (xs:List Cont) (x:Cont),x ∈ walkL xs→depthC x≤depthL xs
 | [],x,h=>by rw [walkL] at h;cases h
 | y :: ys,x,h=>by
  rw [walkL,List.mem_append] at h;rw [depthL];rcases h with h | h
  · have:=depth_walk y x h;omega
  · have:=depth_walkL ys x h;omega
end
mutual
theorem depth_same:∀ c:Cont,AllOk c→depthR c=depthC c
 | .mk k i l s t e xs,h=>by
  obtain ⟨h1,h2⟩:=AllOk_mk.1 h;rw [depthR,depthC];by_cases hk:k=0
  ·
   subst hk
   have:=own_none h1;subst this;rw [if_pos rfl,if_pos rfl,depthL]
  · rw [if_neg hk,if_neg hk,depth_sameL xs h2]
theorem depth_sameL:∀ xs:List Cont,(∀ x ∈ xs,AllOk x)→depthRL xs=depthL xs
 | [],_=>by rw [depthRL,depthL]
 | x :: xs,h=>by rw [depthRL,depthL,depth_same x (h x List.mem_cons_self),depth_sameL xs (fun y hy=>h y (List.mem_cons_of_mem _ hy))]
end
end Go.Cold
namespace Go.Cold
open Go Go.RowKit
theorem ownsRow_below {w w':World} {base n:Nat} {e:TypeId} {v:Value} {l:List Value} (h:w.ownsRow base e 1 v n l) (hb:Below w.heap.size w w'):w'.ownsRow base e 1 v n l:=by
 have hg:w.grownBy w' none:=⟨hb.os,hb.tape,hb.output,hb.size,fun k hk _=>hb.block k hk⟩;exact h.kept hg (by
  cases hv:v.ownBlock with
  | none=>exact .inl rfl
  | some k=>exact .inr (by simp))
theorem numT_size {n:Nat} (h:n<100):(numT n).size≤2:=by
 have:∀ m:Fin 100,(numT m.val).size≤2:=by decide +kernel
 exact this ⟨n,h⟩
theorem comma_len (xs:List ByteArray):(commaB xs).size=(Lib.join (xs.map (·.data.toList)) [44]).length:=by
 unfold commaB;rw [show (⟨(Lib.join (xs.map (·.data.toList)) [44]).toArray⟩:ByteArray).size=(Lib.join (xs.map (·.data.toList)) [44]).toArray.size from rfl];simp
theorem join_size (xs:List ByteArray):(commaB xs).size+1≤(xs.map (fun x=>x.size+1)).sum+1:=by
 have h0:=comma_len xs;rw [h0];cases xs with
 | nil=>simp [Lib.join_nil]
 | cons x r =>
  rw [List.map_cons,Lib.join_cons,List.length_append,List.map_cons,List.sum_cons];have h1:∀ r:List ByteArray,(Lib.joinTail [44] (r.map (·.data.toList))).length=(r.map (fun x=>x.size+1)).sum:=by
   intro r;induction r with
   | nil=>simp [Lib.joinTail]
   | cons y r ih =>
    unfold Lib.joinTail at ih ⊢;rw [List.map_cons,List.map_cons,List.flatten_cons,List.length_append,List.map_cons,List.sum_cons,← ih];simp
    try omega
  rw [h1];have:x.data.toList.length=x.size:=ba_size x;omega
theorem own_nums {k:Int} {i l:ByteArray} {s t e:Int} {xs:List Cont} (h:ownB (.mk k i l s t e xs)=true) :
  (k=0∨k=1∨k=2∨k=3∨k=4∨k=5)∧i.size≤16∧l.size≤16∧(0≤s∧s≤16)∧(0≤t∧t≤16)∧(0≤e∧e≤16):=by
 have hid:∀ z:ByteArray,idB z=true→z.size≤16:=fun z hz=>by
  unfold idB at hz;simp only [Bool.and_eq_true,decide_eq_true_eq] at hz;omega
 have hem:∀ z:ByteArray,z.toList.isEmpty=true→z.size≤16:=fun z hz=>by
  rw [isEmpty_iff] at hz;subst hz;decide
 unfold ownB noneB slots2 c7withinB at h;dsimp only at h;by_cases h0:k=0
 ·
  simp only [h0,if_true,Bool.and_eq_true,decide_eq_true_eq] at h
  exact ⟨.inl h0,hem _ h.1,hem _ h.2.1,by omega,by omega,by omega⟩
 rw [if_neg h0,Bool.and_eq_true] at h;obtain ⟨hi,h⟩:=h;have hi':=hid _ hi;by_cases h1:k=1
 ·
  simp only [h1,if_true,Bool.and_eq_true,decide_eq_true_eq,Bool.or_eq_true] at h
  exact ⟨by omega,hi',h.1.elim (hem _) (hid _),by omega,by omega,by omega⟩
 by_cases h2:k=2
 ·
  simp [h2] at h
  exact ⟨by omega,hi',hem _ (by simpa using h.1),by omega,by omega,by omega⟩
 by_cases h3:k=3
 ·
  simp [h3] at h
  exact ⟨by omega,hi',hem _ (by simpa using h.1),by omega,by omega,by omega⟩
 by_cases h4:k=4
 ·
  simp [h4] at h
  exact ⟨by omega,hi',hem _ (by simpa using h.1),by omega,by omega,by omega⟩
 by_cases h5:k=5
 ·
  simp [h5] at h
  exact ⟨by omega,hi',hem _ (by simpa using h.1),by omega,by omega,by omega⟩
 simp [h1,h2,h3,h4,h5] at h
theorem lit_size (a:Array UInt8):(⟨a⟩:ByteArray).size=a.size:=rfl
theorem numT_int {z:Int} (h:0≤z∧z≤16):(numT z).size≤2:=by
 obtain ⟨n,rfl⟩:=Int.eq_ofNat_of_zero_le h.1;exact numT_size (by omega)
mutual
theorem text_size:∀ c:Cont,AllOk c→(textC c).size+1≤40 * nodesC c
 | .mk k i l s t e xs,h=>by
  obtain ⟨h1,h2⟩:=AllOk_mk.1 h;have h3:=text_sizeL xs h2;obtain ⟨-,hi,hl,hs,ht,he⟩:=own_nums h1;have hs:=numT_int hs;have ht:=numT_int ht;have he:=numT_int he;have lit:∀ a:Array UInt8,(⟨a⟩:ByteArray).size=a.size:=fun _=>rfl
  rw [textC,nodesC];split
  · simp only [ByteArray.size_append,lit];simp;omega
  split
  · simp only [ByteArray.size_append,lit];simp;omega
  split
  · simp only [ByteArray.size_append,lit];simp;omega
  split
  · simp only [ByteArray.size_append,lit];simp;omega
  split
  · simp only [ByteArray.size_append,lit];simp;omega
  · simp only [lit];simp;omega
theorem text_sizeL:∀ xs:List Cont,(∀ x ∈ xs,AllOk x)→(commaB (textL xs)).size≤40 * nodesL xs
 | xs,h=>by
  have h1:=join_size (textL xs);have h2:=text_sum xs h;omega
theorem text_sum:∀ xs:List Cont,(∀ x ∈ xs,AllOk x)→((textL xs).map (fun x=>x.size+1)).sum≤40 * nodesL xs
 | [],_=>by rw [textL,nodesL];simp
 | x :: xs,h=>by
  have h1:=text_size x (h x List.mem_cons_self);have h2:=text_sum xs (fun y hy=>h y (List.mem_cons_of_mem _ hy));rw [textL,nodesL,List.map_cons,List.sum_cons];omega
end
theorem text_mem:∀ {xs:List Cont} {t:ByteArray},t ∈ textL xs→∃ x ∈ xs,t=textC x
 | [],t,h=>by rw [textL] at h;cases h
 | x :: xs,t,h=>by
  rw [textL,List.mem_cons] at h;rcases h with rfl | h
  · exact ⟨x,List.mem_cons_self,rfl⟩
  ·
   obtain ⟨y,hy,rfl⟩:=text_mem h
   exact ⟨y,List.mem_cons_of_mem _ hy,rfl⟩
end Go.Cold
namespace Go.Proofs.YtjgllhlilbchpaaGreatDoor
open Go.RowKit Go.Cold

theorem info_str:(Tryz.prog.info? 9).map (fun i=>(i.zero,i.size,i.bytes))=some (some (.string ByteArray.empty),1,16):=by kernel_rfl
theorem JoinComma_any (A:Option Addr) (c:Nat) (xs:List ByteArray) (w:World) (hx:Sl w w.heap.size A c xs) (hlen:(commaB xs).size≤140737488355328) (hn:xs.length≤140737488355328) :
  Calls Tryz.prog 140 #[.slice A xs.length c,.string ⟨#[44]⟩] w fun e w'=>e=.returned (.string (commaB xs))∧Below w.heap.size w w':=by
 rcases Nat.eq_zero_or_pos xs.length with h0 | h0
 ·
  have hx0:xs=[]:=List.eq_nil_of_length_eq_zero h0
  subst hx0;exact (Tryz.strings_Join_none A c ⟨#[44]⟩ w).mono fun e w' ⟨he,hw⟩=>⟨he,by rw [hw];exact Below.refl _ _⟩
 ·
  obtain ⟨b,o,rfl,hb,h1⟩:=hx.strs h0
  exact Tryz.strings_Join b o c xs ⟨#[44]⟩ w h1 hb hn hx.1 (by rw [← comma_len];exact hlen)
theorem itoa_small (n:Nat) (h:n<100) (w:World):Calls Tryz.prog 48 #[.int .i64 n] w fun e w'=>e=.returned (.string (numT n))∧w'=w:=Tryz.strconv_Itoa_small n h w

end Go.Proofs.YtjgllhlilbchpaaGreatDoor
namespace Go.Cold
open Go Go.RowKit
def pieceP (s ends:ByteArray) (k:Nat):ByteArray:=(s.extract k s.size).extract 0 (untilN (s.extract k s.size) ends)
def afterP (s ends:ByteArray) (k:Nat):Nat:=k+untilN (s.extract k s.size) ends
def wantP (s t:ByteArray) (k:Nat):Option Nat:=if skipB s k t then some (k+t.size) else none
def numP (t:ByteArray):Option Int:=match Lib.atoiAll t.data.toList with
 | .ok n=>if Lib.itoa n=t.data.toList then some n else none
 | _=>none
def numAt (s:ByteArray) (k:Nat):Option (Int × Nat):=(numP (pieceP s ⟨#[47,40,44,41,58]⟩ k)).map fun n=>(n,afterP s ⟨#[47,40,44,41,58]⟩ k)
mutual
def contP (s:ByteArray):Nat→Nat→Option (Cont × Nat)
 | 0,_=>none
 | f+1,k =>
  let kind:=pieceP s ⟨#[58,44,41]⟩ k
  let k1:=afterP s ⟨#[58,44,41]⟩ k
  if kind=⟨#[]⟩ then some (.mk 0 ⟨#[]⟩ ⟨#[]⟩ 0 0 0 [],k1) else
  (wantP s ⟨#[58]⟩ k1).bind fun k2 =>
  let i:=pieceP s ⟨#[58,40,44,41]⟩ k2
  let k3:=afterP s ⟨#[58,40,44,41]⟩ k2
  if kind=⟨#[102,115]⟩ then (wantP s ⟨#[58]⟩ k3).bind fun k4=>some (.mk 1 i (pieceP s ⟨#[44,41]⟩ k4) 0 0 0 [],afterP s ⟨#[44,41]⟩ k4)
  else if kind=⟨#[114,97,105,100]⟩ then
   (wantP s ⟨#[58]⟩ k3).bind fun k4=>(numAt s k4).bind fun (n1,k5)=>(wantP s ⟨#[47]⟩ k5).bind fun k6=>(numAt s k6).bind fun (n2,k7)=>(wantP s ⟨#[47]⟩ k7).bind fun k8=>(numAt s k8).bind fun (n3,k9) =>
   (wantP s ⟨#[40]⟩ k9).bind fun k10=>(innerP s f k10 []).map fun (xs,k11)=>(.mk 2 i ⟨#[]⟩ n1 n2 n3 xs,k11)
  else if kind=⟨#[99,114,121,112,116]⟩ then (wantP s ⟨#[40]⟩ k3).bind fun k10=>(innerP s f k10 []).map fun (xs,k11)=>(.mk 3 i ⟨#[]⟩ 0 0 0 xs,k11)
  else if kind=⟨#[112,118]⟩ then
   (wantP s ⟨#[58]⟩ k3).bind fun k4=>(numAt s k4).bind fun (n1,k5)=>(wantP s ⟨#[47]⟩ k5).bind fun k6=>(numAt s k6).bind fun (n2,k7) =>
   (wantP s ⟨#[40]⟩ k7).bind fun k10=>(innerP s f k10 []).map fun (xs,k11)=>(.mk 4 i ⟨#[]⟩ n1 n2 0 xs,k11)
  else if kind=⟨#[116,97,98,108,101]⟩ then (wantP s ⟨#[40]⟩ k3).bind fun k10=>(innerP s f k10 []).map fun (xs,k11)=>(.mk 5 i ⟨#[]⟩ 0 0 0 xs,k11)
  else none
def innerP (s:ByteArray):Nat→Nat→List Cont→Option (List Cont × Nat)
 | 0,_,_=>none
 | f+1,k,xs=>(contP s f k).bind fun (x,k1)=>if skipB s k1 ⟨#[41]⟩ then some (xs ++ [x],k1+1) else (wantP s ⟨#[44]⟩ k1).bind fun k2=>innerP s f k2 (xs ++ [x])
end
end Go.Cold
namespace Go.Cold
open Go Go.RowKit
theorem indexAny_lt (cs:List UInt8):∀ l:List UInt8,Lib.indexAny l cs≤l.length
 | []=>by rw [Lib.indexAny];simp
 | b :: l=>by
  have ih:=indexAny_lt cs l;rw [Lib.indexAny];split
  · simp;omega
  ·
   split
   · simp;omega
   · rw [List.length_cons];omega
theorem untilN_le (r ends:ByteArray):untilN r ends≤r.size:=by
 have h1:=indexAny_lt ends.data.toList r.data.toList;rw [ba_size] at h1;unfold untilN;split
 · exact Nat.le_refl _
 · omega
theorem afterP_le {s ends:ByteArray} {k:Nat} (hk:k≤s.size):afterP s ends k≤s.size∧k≤afterP s ends k:=by
 have h:=untilN_le (s.extract k s.size) ends;rw [ByteArray.size_extract] at h;unfold afterP;omega
theorem pieceP_le (s ends:ByteArray) (k:Nat):(pieceP s ends k).size≤s.size:=by
 unfold pieceP;rw [ByteArray.size_extract,ByteArray.size_extract];omega
def slashE:ByteArray:=⟨#[47,40,44,41,58]⟩
theorem isNone_ok {t:ByteArray} {n:Int} (h:Lib.atoiAll t.data.toList=.ok n):(numP t).isNone = !decide (Lib.itoa n=t.data.toList):=by
 unfold numP;rw [h];by_cases h2:Lib.itoa n=t.data.toList
 · simp [h2]
 · simp [h2]
theorem isNone_no {t:ByteArray} (h:∀ n,Lib.atoiAll t.data.toList≠.ok n):(numP t).isNone=true:=by
 unfold numP;split
 · exact absurd (by assumption) (h _)
 · rfl
end Go.Cold
namespace Go.Proofs.YtjgllhlilbchpaaGreatDoor
open Go.RowKit Go.Cold

def ifaceV (ev:Value):Prop:=ev=.nilIface∨∃ te pe,ev=.iface te pe
def Ok7 (w:World):Prop:=(∃ ev,w.cell? ⟨6,0,none⟩=some ev∧ifaceV ev)∧(∃ ev,w.cell? ⟨7,0,none⟩=some ev∧ifaceV ev)∧
 Lib.TabIs Tryz.prog w "internal/strconv.uint64pow10" .u64 Lib.pow10Tab
theorem tab_named : Tryz.prog.globalNamed "internal/strconv.uint64pow10" = some 3 := by kernel_rfl
theorem var_keep {P:Program} {w w':World} {n:String} {g:Nat} (hg:P.globalNamed n=some g) (h:w'.heap[g]? = w.heap[g]?):w'.var? P n=w.var? P n:=by
 simp [World.var?,hg,h]
theorem Ok7.lt {w:World} (h:Ok7 w):6<w.heap.size∧7<w.heap.size∧3<w.heap.size:=by
 obtain ⟨⟨e1,h1,_⟩,⟨e2,h2,_⟩,h3⟩:=h;refine ⟨block_lt_of_cell h1,block_lt_of_cell h2,?_⟩;unfold Lib.TabIs World.var? at h3;rw [tab_named] at h3;simp only [Option.bind_some] at h3;by_cases hlt:3<w.heap.size
 · exact hlt
 ·
  rw [Array.getElem?_eq_none (by omega)] at h3
  cases h3
theorem Ok7.below {w w':World} (h:Ok7 w) (hb:Below w.heap.size w w'):Ok7 w':=by
 obtain ⟨l1,l2,l3⟩:=h.lt;obtain ⟨⟨e1,h1,q1⟩,⟨e2,h2,q2⟩,h3⟩:=h;refine ⟨⟨e1,(hb.cell (p:=⟨_,0,none⟩) (by exact l1)).trans h1,q1⟩,⟨e2,(hb.cell (p:=⟨_,0,none⟩) (by exact l2)).trans h2,q2⟩,?_⟩;unfold Lib.TabIs at h3 ⊢;rw [var_keep tab_named (hb.block _ l3)];exact h3
def GB (b:Nat):Prop:=6≠b∧7≠b∧3≠b
theorem Ok7.gb {w:World} (h:Ok7 w) {b:Nat} (hb:w.heap.size≤b):GB b:=by
 obtain ⟨l1,l2,l3⟩:=h.lt;exact ⟨by omega,by omega,by omega⟩
theorem Ok7.grown {w w':World} {b:Nat} (h:Ok7 w) (hg:w.grownBy w' (some b)) (hb:GB b):Ok7 w':=by
 obtain ⟨l1,l2,l3⟩:=h.lt;obtain ⟨⟨e1,h1,q1⟩,⟨e2,h2,q2⟩,h3⟩:=h;refine ⟨⟨e1,hg.cell h1 (fun e=>hb.1 (Option.some.inj e)),q1⟩,⟨e2,hg.cell h2 (fun e=>hb.2.1 (Option.some.inj e)),q2⟩,?_⟩;unfold Lib.TabIs at h3 ⊢;rw [var_keep tab_named (hg.block _ l3 (fun e=>hb.2.2 (Option.some.inj e)))];exact h3

def AtoiPost (t:ByteArray) (w:World) (e:Ending) (w':World):Prop:=Below w.heap.size w w'∧∃ n ev,e=.returned (.tuple #[.int .i64 n,ev])∧okInt n∧
 ((Lib.atoiAll t.data.toList=.ok n∧ev=.nilIface)∨((numP t).isNone=true∧∃ te pe,ev=.iface te pe))
theorem Atoi_any (t:ByteArray) (w:World) (hok:Ok7 w) (ht:t.size≤1000):Calls Tryz.prog 174 #[.string t] w (AtoiPost t w):=by
 cases h:Lib.atoiAll t.data.toList
 ·
  rename_i n
  refine (Tryz.strconv_Atoi_ok t (by omega) n h w).mono ?_;rintro e w' ⟨rfl,hw⟩;refine ⟨?_,n,.nilIface,rfl,Lib.atoiAll_bounds h,.inl ⟨h,rfl⟩⟩;rcases hw with rfl | ⟨u,rfl⟩
  · exact Below.refl _ _
  · exact Lib.bytesWorld_below _ _ _
 ·
  obtain ⟨⟨ev,h1,h2⟩,_⟩:=hok
  refine (Any.strconv_Atoi_syntax Tryz.laysC172 t (by omega) h ev w h1 h2).mono ?_;rintro e w' ⟨N,rfl,_,_,hb⟩;exact ⟨hb,0,_,rfl,by unfold okInt;omega,.inr ⟨isNone_no (fun n hn=>by rw [h] at hn;cases hn),_,_,rfl⟩⟩
 ·
  obtain ⟨_,⟨ev,h1,h2⟩,_⟩:=hok
  refine (Any.strconv_Atoi_range Tryz.laysC172 t (by omega) h ev w h1 h2).mono ?_;rintro e w' ⟨N,rfl,_,_,hb⟩;exact ⟨hb,_,_,rfl,by unfold okInt Lib.atoiSat;split <;> omega,.inr ⟨isNone_no (fun n hn=>by rw [h] at hn;cases hn),_,_,rfl⟩⟩
theorem Itoa_any (n:Int) (w:World) (hok:Ok7 w) (hn:okInt n):Calls Tryz.prog 48 #[.int .i64 n] w fun e w'=>e=.returned (.string ⟨(Lib.itoa n).toArray⟩)∧Below w.heap.size w w':=by
 refine (Tryz.strconv_Itoa n hn.1 hn.2 w hok.2.2).mono ?_;rintro e w' ⟨rfl,k,os,rfl⟩;exact ⟨rfl,Lib.below_grow _ _ (Nat.le_refl _) _ _⟩

def IxOk (s:ByteArray):Prop:=∀ ends ∈ [slashE,⟨#[58,44,41]⟩,⟨#[58,40,44,41]⟩,⟨#[44,41]⟩],∀ k,k≤s.size→∀ W,
 Calls Tryz.prog 153 #[.string (s.extract k s.size),.string ends] W fun e W'=>e=.returned (.int .i64 (Lib.indexAny (s.extract k s.size).data.toList ends.data.toList))∧Below W.heap.size W W'

theorem untilP_any (s ends:ByteArray) (k b:Nat) (bad:Bool) (w:World) (hs:s.size≤1000) (hk:k≤s.size) (hc:CurAt w b s k bad) (hix:IxOk s) (he:ends ∈ [slashE,⟨#[58,44,41]⟩,⟨#[58,40,44,41]⟩,⟨#[44,41]⟩]) :
  Calls Tryz.prog 141 #[.pointer (some ⟨b,0,none⟩),.string ends] w fun e w'=>e=.returned (.string (pieceP s ends k))∧CurAt w' b s (afterP s ends k) bad∧w.grownBy w' (some b) :=
 until_any s ends k b bad w hs hk hc (untilN_le _ _) (hix ends he k hk)

def NumPost (s:ByteArray) (k b:Nat) (bad:Bool) (w:World) (e:Ending) (w':World):Prop:=∃ n:Int,e=.returned (.int .i64 n)∧okInt n∧CurAt w' b s (afterP s slashE k) (bad || (numP (pieceP s slashE k)).isNone)∧w.grownBy w' (some b)∧
 ∀ m,numP (pieceP s slashE k)=some m→n=m
theorem numP_ok {t:ByteArray} {n:Int} (h:Lib.atoiAll t.data.toList=.ok n):∀ m,numP t=some m→n=m:=fun m hm=>by
 unfold numP at hm;rw [h] at hm;dsimp only at hm;split at hm
 · exact Option.some.inj hm
 · cases hm
theorem numP_none {t:ByteArray} {n:Int} (h:(numP t).isNone=true):∀ m,numP t=some m→n=m:=fun m hm=>by rw [hm] at h;cases h
set_option maxRecDepth 10000 in
theorem c7number_any (s:ByteArray) (k b:Nat) (bad:Bool) (w:World) (hs:s.size≤1000) (hk:k≤s.size) (hc:CurAt w b s k bad) (hix:IxOk s) (hok:Ok7 w) (hgb:GB b) :
  Calls Tryz.prog 143 #[.pointer (some ⟨b,0,none⟩)] w (NumPost s k b bad w):=by
 have hcall:=untilP_any s slashE k b bad w hs hk hc hix (by simp);have HCALL:=Lh_ hcall;clear hcall hc hix;have hpl:=pieceP_le s slashE k;have HOK:=Lh_ hok;have HGB:=Lh_ hgb;clear hok hgb;go_enter Tryz.func143,Tryz.ntmps143;go_wp2_with fail;refine HCALL.out.mono ?_;rintro e w1 ⟨rfl,hc1,hg1⟩;have hok1:=HOK.out.grown hg1 HGB.out;have HN:=Lh_ (show NumPost s k b bad w=NumPost s k b bad w from rfl);obtain ⟨t,ht⟩:∃ t,pieceP s slashE k=t:=⟨_,rfl⟩;rw [ht] at hpl ⊢;have HT:=Lh_ ht;clear ht;have hcall2:=Atoi_any t w1 hok1 (by omega);have HC1:=Lh_ hc1;have HG1:=Lh_ hg1;have HOK1:=Lh_ hok1;have HCALL2:=Lh_ hcall2;clear hc1 hg1 hok1 hcall2 hpl;go_wp2_with fail;refine HCALL2.out.mono ?_;rintro e w2 ⟨hb2,n,ev,rfl,hokn,hor⟩;obtain ⟨c2,g2⟩:=HC1.out.below hb2;obtain ⟨h0,h1,h2,hf,hlt⟩:=id c2;have HOK2:=Lh_ (HOK1.out.below hb2);have HC2:=Lh_ c2;have HG2:=Lh_ g2;have HOKN:=Lh_ hokn;clear c2 g2 hb2 hokn;have hend:∀ z,z=(bad || (numP t).isNone)→(∀ m,numP t=some m→n=m)→∀ w3,CurAt w3 b s (afterP s slashE k) z→w2.grownBy w3 (some b)→NumPost s k b bad w (.returned (.int .i64 n)) w3:=by
  intro z hz hm w3 h3 h4;subst hz;exact ⟨n,rfl,HOKN.out,by rw [HT.out];exact h3,grown_trans (grown_trans HG1.out HG2.out) h4,by rw [HT.out];exact hm⟩
 have HEND:=Lh_ hend;clear hend;rcases hor with ⟨hv,rfl⟩ | ⟨hv,te,pe,rfl⟩
 ·
  cases bad with
  | true =>
   have HV:=Lh_ hv;clear hv;go_wp2;go_ret;obtain ⟨q1,q2⟩:=cur_bad true HC2.out;exact HEND.out true rfl (numP_ok HV.out) _ q1 q2
  | false =>
   have hcall3:=Itoa_any n w2 HOK2.out HOKN.out;have HV:=Lh_ hv;clear hv;have HCALL3:=Lh_ hcall3;clear hcall3;go_wp2_with fail;refine HCALL3.out.mono ?_;rintro e w3 ⟨rfl,hb3⟩;obtain ⟨c3,g3⟩:=HC2.out.below hb3;clear h0 h1 h2 hf hlt;obtain ⟨h0,h1,h2,hf,hlt⟩:=id c3;have HC3:=Lh_ c3;have HG3:=Lh_ g3;clear c3 g3 hb3;have hnone:=isNone_ok HV.out;obtain ⟨z,hz⟩:∃ z:ByteArray,(⟨(Lib.itoa n).toArray⟩:ByteArray)=z:=⟨_,rfl⟩;rw [hz];have hzz:decide (Lib.itoa n=t.data.toList)=decide (z=t):=by
    rw [← hz];have:(Lib.itoa n=t.data.toList)↔(⟨(Lib.itoa n).toArray⟩:ByteArray)=t:=by
     constructor
     · intro h;exact ba_ext (by simpa using h)
     · intro h;rw [← h]
    exact decide_eq_decide.2 this
   rw [hzz] at hnone;have HZ:=Lh_ hz;clear hz hzz;by_cases hq:z=t
   ·
    have p1:(z.toList == t.toList)=true:=by rw [ba_beq];exact decide_eq_true hq
    have p2:(!z.toList == t.toList)=false:=by rw [p1];rfl
    have p3:(z.toList != t.toList)=false:=p2;rw [decide_eq_true hq] at hnone;have HNO:=Lh_ hnone;clear hnone hq;go_wp2;go_ret;obtain ⟨q1,q2⟩:=cur_bad false HC3.out;exact HEND.out false (by rw [HNO.out];rfl) (numP_ok HV.out) _ q1 (grown_trans HG3.out q2)
   ·
    have p1:(z.toList == t.toList)=false:=by rw [ba_beq];exact decide_eq_false hq
    have p2:(!z.toList == t.toList)=true:=by rw [p1];rfl
    have p3:(z.toList != t.toList)=true:=p2;rw [decide_eq_false hq] at hnone;have HNO:=Lh_ hnone;clear hnone hq;go_wp2;go_ret;obtain ⟨q1,q2⟩:=cur_bad true HC3.out;exact HEND.out true (by rw [HNO.out];rfl) (numP_ok HV.out) _ q1 (grown_trans HG3.out q2)
 ·
  have HV:=Lh_ hv;clear hv
  cases bad with
  | true =>
   go_wp2;go_ret;obtain ⟨q1,q2⟩:=cur_bad true HC2.out;exact HEND.out true rfl (numP_none HV.out) _ q1 q2
  | false =>
   go_wp2;go_ret;obtain ⟨q1,q2⟩:=cur_bad true HC2.out;exact HEND.out true (by rw [HV.out];rfl) (numP_none HV.out) _ q1 q2
end Go.Proofs.YtjgllhlilbchpaaGreatDoor
namespace Go.Cold
open Go Go.RowKit
theorem CurAt.kept {w w':World} {b k:Nat} {s:ByteArray} {bad:Bool} {row:Option Nat} (h:CurAt w b s k bad) (hg:w.grownBy w' row) (hne:some b≠row):CurAt w' b s k bad:=by
 obtain ⟨h0,h1,h2,hf,hlt⟩:=h;have hh:=hg.block b hlt hne;exact ⟨(cell_heap hh 0).trans h0,(cell_heap hh 1).trans h1,(cell_heap hh 2).trans h2,fun j=>(frozen_heap hh j).trans (hf j),Nat.lt_of_lt_of_le hlt hg.size⟩
theorem OwnsC.grownb {F:Nat→Prop} {w w':World} {base b:Nat} {e:TypeId} {v:Value} {xs:List Cont} (h:OwnsC F w base e v xs) (hg:w.grownBy w' (some b)) (hF:∀ x,F x→x≠b) (hbase:b<base):OwnsC F w' base e v xs:=by
 obtain ⟨css,h1,h2,h3⟩:=h;refine ⟨css,h1.kept hg ?_,h2,fun i x cs hx hcs=>CRdS_mono (fun y ⟨hf,q1,q2⟩=>⟨hf,by have:=hg.size;omega,q2⟩) (fun y o u ⟨hf,_,_⟩ hu=>hg.cell hu (fun e=>hF y hf (Option.some.inj e))) x cs (h3 i x cs hx hcs)⟩;cases hv:v.ownBlock with
 | none=>exact .inl rfl
 | some q =>
  right
  intro e;have h4:=(h1.lt q hv).1;have h5:=Option.some.inj e;omega
theorem step_want {α:Type} (s t:ByteArray) (k:Nat) (bad:Bool) (R:Nat→Option α) :
  (if bad then none else (wantP s t k).bind R)=(if (!skipB s k t || bad) then none else R (if skipB s k t then k+t.size else k)):=by
 cases bad <;> cases h:skipB s k t <;> simp [wantP,h]
def measP (size b:Nat) (w:World):Nat:=match w.cell? ⟨b,1,none⟩,w.cell? ⟨b,2,none⟩ with
 | some (.int _ n),some (.bool bad)=>2 * (size - n.toNat)+(if bad then 0 else 1)
 | _,_=>0
theorem measP_at {w:World} {b k:Nat} {s:ByteArray} {bad:Bool} (h:CurAt w b s k bad) (size:Nat):measP size b w=2 * (size - k)+(if bad then 0 else 1):=by
 obtain ⟨_,h1,h2,_⟩:=h;unfold measP;rw [h1,h2];simp
theorem skip_bound {s t:ByteArray} {k:Nat} (hk:k≤s.size):(if skipB s k t then k+t.size else k)≤s.size∧k≤(if skipB s k t then k+t.size else k):=by
 split
 · exact ⟨skipB_le hk (by assumption),by omega⟩
 · exact ⟨hk,Nat.le_refl _⟩
def InnerRel (s:ByteArray) (N b:Nat) (T:TypeId) (w0:World) (k:Nat) (spec:Option (List Cont × Nat)) (v:Value) (wr:World):Prop :=
 ∃ (kr:Nat) (badr:Bool) (xs:List Cont) (fr:Nat),OwnsC (fun x=>w0.heap.size≤x) wr w0.heap.size T v xs∧CurAt wr b s kr badr∧w0.grownBy wr (some b)∧(kr≤s.size∧k≤kr∧nodesL xs+k≤kr)∧
  (badr=false→nodesL xs+k+1≤kr∧s.size+1<fr+kr∧s.size<N+kr)∧spec=(if badr then none else innerP s fr kr xs)
end Go.Cold
namespace Go.Proofs.YtjgllhlilbchpaaGreatDoor
open Go.RowKit Go.Cold

def ContPost (s:ByteArray) (k f b:Nat) (bad:Bool) (w:World) (e:Ending) (w':World):Prop:=∃ (cs:List Value) (c:Cont) (k':Nat) (bad':Bool),e=.returned (.agg cs.toArray)∧NewC w w' c cs∧CurAt w' b s k' bad'∧w.grownBy w' (some b)∧
 (k≤k'∧k'≤s.size∧nodesC c+k≤k'+1)∧(if bad then none else contP s f k)=(if bad' then none else some (c,k'))
def ContCalls (s:ByteArray) (N:Nat):Prop:=∀ (k f:Nat) (bad:Bool) (b:Nat) (w:World),s.size<N+k→k≤s.size→(bad=false→s.size<f+k)→CurAt w b s k bad→Ok7 w→GB b→
 Calls Tryz.prog 105 #[.pointer (some ⟨b,0,none⟩)] w (ContPost s k f b bad w)
def NewL (w w':World) (A:Option Addr) (c:Nat) (xs:List Cont):Prop:=xs.length≤c∧c≤maxLen∧
 (0<xs.length→∃ bb o,A=some ⟨bb,o,none⟩∧(w.heap.size≤bb∧bb<w'.heap.size)∧CsAtS w' (fun x=>w.heap.size≤x∧x<w'.heap.size) bb xs o)
def InnerPost (s:ByteArray) (k f b:Nat) (bad:Bool) (w:World) (e:Ending) (w':World):Prop:=∃ (A:Option Addr) (c:Nat) (xs:List Cont) (k':Nat) (bad':Bool),e=.returned (.slice A xs.length c)∧NewL w w' A c xs∧CurAt w' b s k' bad'∧w.grownBy w' (some b)∧
 (k≤k'∧k'≤s.size∧nodesL xs+k≤k')∧(if bad then none else (wantP s ⟨#[40]⟩ k).bind fun k1=>innerP s f k1 [])=(if bad' then none else some (xs,k'))

set_option maxHeartbeats 4000000 in
set_option maxRecDepth 100000 in
theorem inner_any (s:ByteArray) (hs:s.size≤1000) (N:Nat) (H:ContCalls s N) (k f:Nat) (bad:Bool) (b:Nat) (w:World) (hk:k≤s.size) (hf:bad=false→s.size<N+(k+1)∧s.size+1<f+(k+1))
  (hc:CurAt w b s k bad) (hok:Ok7 w) (hgb:GB b):Calls Tryz.prog 144 #[.pointer (some ⟨b,0,none⟩)] w (InnerPost s k f b bad w):=by
 obtain ⟨i0,hi0,hz0,hz1,hz2⟩:=info_parts info_cont;have HI0:=Lh_ hi0;clear hi0;have HZ0:=Lh_ hz0;clear hz0;have HZ1:=Lh_ hz1;clear hz1;have HZ2:=Lh_ hz2;clear hz2;have hcall:=want_any s ⟨#[40]⟩ k b bad w hs hk hc;have hbw:b<w.heap.size:=hc.2.2.2.2;have HCALL:=Lh_ hcall;have HH:=Lh_ H;have HOK:=Lh_ hok;have HGB:=Lh_ hgb;have hbd:=@skip_bound s ⟨#[40]⟩ k hk;have hspec:=step_want s ⟨#[40]⟩ k bad (fun k1=>innerP s f k1 []);have hon:(!skipB s k ⟨#[40]⟩ || bad)=false→bad=false∧k+1≤(if skipB s k ⟨#[40]⟩ then k+(⟨#[40]⟩:ByteArray).size else k):=by
  intro h;cases hq:skipB s k ⟨#[40]⟩ with
  | true=>rw [hq] at h;simp at h;exact ⟨h,by rw [if_pos rfl];exact Nat.le_refl _⟩
  | false=>rw [hq] at h;simp at h
 clear hcall H hok hgb hc;go_enter Tryz.func144,Tryz.ntmps144;go_wp2_with fail;refine HCALL.out.mono ?_;rintro e w1 ⟨rfl,hc1,hg1⟩;obtain ⟨k1,hk1⟩:∃ k1,(if skipB s k ⟨#[40]⟩ then k+(⟨#[40]⟩:ByteArray).size else k)=k1:=⟨_,rfl⟩;obtain ⟨bad1,hbad1⟩:∃ bad1,(!skipB s k ⟨#[40]⟩ || bad)=bad1:=⟨_,rfl⟩;rw [hk1] at hc1 hbd hspec hon;rw [hbad1] at hc1 hspec hon;obtain ⟨spec,hspc⟩:∃ spec,(if bad then none else (wantP s ⟨#[40]⟩ k).bind fun k1=>innerP s f k1 [])=spec:=⟨_,rfl⟩;rw [hspc] at hspec;have hrel0:InnerRel s N b 72 w k spec (.slice none 0 0) w1:=by
  refine ⟨k1,bad1,[],f,OwnsC.nil_ _ _ _ _,hc1,hg1,⟨hbd.1,hbd.2,by rw [nodesL];omega⟩,fun h=>?_,hspec⟩;obtain ⟨h1,h2⟩:=hon h;obtain ⟨h3,h4⟩:=hf h1;exact ⟨by rw [nodesL];omega,by omega,by omega⟩
 have HSPC:=Lh_ hspc;have HREL0:=Lh_ hrel0;have HK:=Lh_ hk;clear hspc hrel0 hspec hon hbd hk1 hbad1 hc1 hf hk;have hh0:∃ kr badr,CurAt w1 b s kr badr:=by obtain ⟨kr,badr,xs,fr,_,h,_⟩:=HREL0.out;exact ⟨kr,badr,h⟩
 have HG1:=Lh_ hg1;clear hg1 hh0;go_wp2_with fail;go_loopw [3] (fun v wr=>Hid (InnerRel s N b 72 w k spec v wr)) (fun _ wr=>measP s.size b wr)
 case atStart=>exact HREL0
 case round =>
  obtain ⟨kr,badr,xs,fr,howns,hcr,hgr,hbnd,hgood,hsp⟩:=hrel.out;clear HREL0 hrel;have hmeas:=measP_at hcr s.size;obtain ⟨h0,h1,h2,hfz,hlt⟩:=id hcr;have HOWN:=Lh_ howns;have HCR:=Lh_ hcr;have HGR:=Lh_ hgr;have HBND:=Lh_ hbnd;have HGOOD:=Lh_ hgood;have HSP:=Lh_ hsp;have HMEAS:=Lh_ hmeas;clear howns hcr hgr hbnd hgood hsp hmeas;cases badr with
  | true =>
   go_wp2;go_ret;refine ⟨none,0,[],kr,true,rfl,⟨Nat.le_refl _,by unfold maxLen;omega,fun h=>by simp at h⟩,HCR.out,HGR.out,⟨HBND.out.2.1,HBND.out.1,by rw [nodesL];have:=HBND.out.2.1;omega⟩,?_⟩;rw [HSPC.out,HSP.out];rfl
  | false =>
   obtain ⟨hn1,hfu,hNN⟩:=HGOOD.out rfl;obtain ⟨hb1,hb2,hb3⟩:=HBND.out;obtain ⟨f',rfl⟩:∃ f',fr=f'+1:=⟨fr - 1,by omega⟩;have hcall:=HH.out kr f' false b wr hNN hb1 (fun _=>by omega) HCR.out (HOK.out.grown HGR.out HGB.out) HGB.out;have HCALL2:=Lh_ hcall;clear hcall;have HN1:=Lh_ hn1;have HFU:=Lh_ hfu;have HNN:=Lh_ hNN;have HB:=Lh_ (And.intro hb1 (And.intro hb2 hb3));clear hn1 hfu hb1 hb2 hb3 hNN;go_wp2_with fail;refine HCALL2.out.mono ?_;rintro e' w3 ⟨cs3,x,k3,bad3,rfl,hnew,hc3,hg3,hbd3,hsp3⟩;clear h0 h1 h2 hfz hlt;obtain ⟨kk2,i2,l2,s2,t2,e2,xs2⟩:=x;obtain ⟨A3,c3',rfl⟩:=CRdS_cells hnew;simp only [contCells];have HNEW:=Lh_ hnew;have HC3:=Lh_ hc3;have HG3:=Lh_ hg3;have HBD3:=Lh_ hbd3;have HSP3:=Lh_ hsp3;clear hnew hc3 hg3 hbd3 hsp3;obtain ⟨w4,hw4⟩:∃ w4,w3.alloc (.cells #[.int .i64 kk2,.string i2,.string l2,.int .i64 s2,.int .i64 t2,.int .i64 e2,.slice A3 xs2.length c3'] 72)=w4:=⟨_,rfl⟩;have hnews:=cell7_new w3 72 kk2 i2 l2 s2 t2 e2 A3 xs2.length c3';obtain ⟨hb4,hg4,-⟩:=box7 hw4;rw [hw4] at hnews;have hsz0:=HGR.out.size;have hsz3:=HG3.out.size;have hown3:=HOWN.out.grownb HG3.out (fun y hy e=>by omega) hbw;have hown4:=hown3.below hb4;have hwl:=hown3.lt;obtain ⟨css,o1,o2,o3'⟩:=hown4;have hlenx:xs.length≤1000:=by have:=nodesL_length xs;have:=HB.out;omega
   have HO3:=Lh_ o3';clear o3';have HNEWS:=Lh_ hnews;clear hnews;have HLENX:=Lh_ hlenx;clear hlenx;have HW4:=Lh_ hg4;clear hg4;go_wp2_with (at_builtin;go_must (refine wpList_append_own_at _ rfl _ _ 70 rfl w.heap.size 72 i0 _ 7 88 Tryz.underlying70 HI0.out HZ0.out HZ1.out HZ2.out rfl (by decide) _ _ _ rfl o1 ⟨w3.heap.size,0,none⟩ 1 1 _ rfl rfl HNEWS.out (CRdS_one HNEW.out) (by have:=HLENX.out;unfold maxLen;omega) (by have:=HLENX.out;omega) (by have:=HW4.out;omega) ?_);intro v' w5 hown' hgrow _ hat);have hg4:=HW4.out;have hnewb:∀ q,v'.ownBlock=some q→u3.ownBlock=some q∨w4.heap.size≤q:=fun q hq=>by
    rcases hat with h | h
    · exact .inl (h.symm.trans hq)
    · rw [hq] at h;exact .inr (by have:=Option.some.inj h;omega)
   have hx4:CRdS w4 (fun y=>w.heap.size≤y∧y<w4.heap.size∧u3.ownBlock≠some y) (.mk kk2 i2 l2 s2 t2 e2 xs2) (contCells kk2 i2 l2 s2 t2 e2 A3 xs2.length c3') :=
    CRdS_mono (fun y ⟨q1,q2⟩=>⟨by omega,by omega,fun h=>by
     have:=(HOWN.out.lt y h).2;omega⟩) (fun y o u ⟨_,q2⟩ hu=>(hb4.cell (p:=⟨y,o,none⟩) (by exact q2)).trans hu) _ _ HNEW.out
   have hOwn5:OwnsC (fun y=>w.heap.size≤y) w5 w.heap.size 72 v' (xs ++ [.mk kk2 i2 l2 s2 t2 e2 xs2]) :=
    OwnsC.app (w:=w4) o1 o2 HO3.out hx4 hown' hgrow hnewb
   have hcur4:=(HC3.out.below hb4).1;have hcur5:CurAt w5 b s k3 bad3:=hcur4.kept hgrow (fun e=>by have:=(hwl b e.symm).1;omega);have hg5:w.grownBy w5 (some b):=grown_new (grown_below (grown_trans HGR.out HG3.out) hb4) hgrow (fun q hq=>(hwl q hq).1);obtain ⟨hq1,hq2,hq3⟩:=HBD3.out;obtain ⟨hr1,hr2,hr3⟩:=HB.out;have hnodes:nodesL (xs ++ [.mk kk2 i2 l2 s2 t2 e2 xs2])+k≤k3:=by have:=HN1.out;rw [nodesL_app];omega
   have hspecn:spec=(if bad3 then none else if skipB s k3 ⟨#[41]⟩ then some (xs ++ [.mk kk2 i2 l2 s2 t2 e2 xs2],k3+1) else (wantP s ⟨#[44]⟩ k3).bind fun k2=>innerP s f' k2 (xs ++ [.mk kk2 i2 l2 s2 t2 e2 xs2])):=by
    have h:=HSP.out;rw [if_neg (by decide),innerP] at h;have h3:=HSP3.out;rw [if_neg (by decide)] at h3;rw [h,h3];cases bad3 <;> rfl
   have HOWN5:=Lh_ hOwn5;have HCUR5:=Lh_ hcur5;have HG5:=Lh_ hg5;have HNODES:=Lh_ hnodes;have HSPN:=Lh_ hspecn;have HQ1:=Lh_ hq1;have HQ2:=Lh_ hq2;have HR1:=Lh_ hr1;have HR2:=Lh_ hr2;clear hOwn5 hcur5 hg5 hnodes hspecn hcur4 hx4 hnewb hown' hgrow hat o1 o2 hown3 hb4 hg4 hsz0 hsz3 hwl hw4 hq1 hq2 hq3 hr1 hr2 hr3;go_wp2_with fail;refine (skip_any s ⟨#[41]⟩ k3 b bad3 w5 hs HQ2.out HCUR5.out).mono ?_;rintro e' w6 ⟨rfl,hc6,hg6⟩;have hown6:=HOWN5.out.grownb hg6 (fun y hy e=>by omega) hbw;have HOWN6:=Lh_ hown6;have HG6:=Lh_ (grown_trans HG5.out hg6);have HC6:=Lh_ hc6;clear hown6 hg6 hc6;cases hsk:skipB s k3 ⟨#[41]⟩ with
   | true =>
    have HSK:=Lh_ hsk;clear hsk;go_wp2;obtain ⟨A5,c5,rfl,hc51,hc52,hc53⟩:=HOWN6.out.cs;go_ret;have hle:=skipB_le HQ2.out HSK.out;have hsz1:(⟨#[41]⟩:ByteArray).size=1:=rfl;rw [hsz1] at hle;have hc6:=HC6.out;rw [HSK.out,if_pos rfl,hsz1] at hc6;refine ⟨A5,c5,_,k3+1,bad3,rfl,⟨hc51,hc52,hc53⟩,hc6,HG6.out,⟨by have:=HQ1.out;have:=HR2.out;omega,hle,by have:=HNODES.out;omega⟩,?_⟩;rw [HSPC.out,HSPN.out,HSK.out];cases bad3 <;> rfl
   | false =>
    have HSK:=Lh_ hsk;clear hsk;have hc6:=HC6.out;rw [HSK.out,if_neg (by decide)] at hc6;have HC6':=Lh_ hc6;clear hc6;go_wp2_with fail;refine (want_any s ⟨#[44]⟩ k3 b bad3 w6 hs HQ2.out HC6'.out).mono ?_;rintro e' w7 ⟨rfl,hc7,hg7⟩;have hbd7:=@skip_bound s ⟨#[44]⟩ k3 HQ2.out;have hon7:(!skipB s k3 ⟨#[44]⟩ || bad3)=false→k3+1≤(if skipB s k3 ⟨#[44]⟩ then k3+(⟨#[44]⟩:ByteArray).size else k3):=by
     intro h;cases hq:skipB s k3 ⟨#[44]⟩ with
     | true=>rw [if_pos rfl];exact Nat.le_refl _
     | false=>rw [hq] at h;simp at h
    have hspec7:=step_want s ⟨#[44]⟩ k3 bad3 (fun k2=>innerP s f' k2 (xs ++ [.mk kk2 i2 l2 s2 t2 e2 xs2]));have hspn:=HSPN.out;rw [HSK.out] at hspn;simp only [Bool.false_eq_true,if_false] at hspn;rw [← hspn] at hspec7;obtain ⟨k7,hk7⟩:∃ k7,(if skipB s k3 ⟨#[44]⟩ then k3+(⟨#[44]⟩:ByteArray).size else k3)=k7:=⟨_,rfl⟩;obtain ⟨bad7,hbad7⟩:∃ bad7,(!skipB s k3 ⟨#[44]⟩ || bad3)=bad7:=⟨_,rfl⟩;rw [hk7] at hc7 hbd7 hspec7 hon7;rw [hbad7] at hc7 hspec7 hon7;have hrel7:InnerRel s N b 72 w k spec v' w7:=by
     refine ⟨k7,bad7,xs ++ [.mk kk2 i2 l2 s2 t2 e2 xs2],f',HOWN6.out.grownb hg7 (fun y hy e=>by omega) hbw,hc7,grown_trans HG6.out hg7,⟨hbd7.1,by have:=HQ1.out;have:=HR2.out;omega,by have:=HNODES.out;omega⟩,fun h=>?_,hspec7⟩;have h1:=hon7 h;have:=HNODES.out;have:=HFU.out;have:=HQ1.out;have:=HR1.out;have:=HNN.out;exact ⟨by omega,by omega,by omega⟩
    have hmeas7:=measP_at hc7 s.size;have hlt7:measP s.size b w7<measP s.size b wr:=by
     rw [hmeas7,HMEAS.out];have:=HQ1.out;have:=HQ2.out;have:=HR1.out;cases bad7 with
     | true=>simp;omega
     | false=>have:=hon7 rfl;simp;omega
    have HREL7:=Lh_ hrel7;have HLT7:=Lh_ hlt7;clear hrel7 hmeas7 hlt7 hc7 hg7 hbd7 hon7 hspec7 hspn hk7 hbad7;go_wp2;go_roundw
    case rel=>exact HREL7
    case measure=>exact HLT7.out
end Go.Proofs.YtjgllhlilbchpaaGreatDoor
