/-
  The walks of layers 3 and 4: the reference's Node and index.
-/
import Derived.Test.YtjgllhlilbchpaaGreatDoorQTK
import Derived.Test.YtjgllhlilbchpaaGreatDoorQA
import Derived.Deep.DeepCutAuto
import Derived.Lib.QuietBelow
import Derived.BigQuiet
set_option linter.unusedSimpArgs false
set_option linter.unusedVariables false
namespace Go.Cold
open Go Go.RowKit
def nodeV (d:Dev):ByteArray:=(nodeD d).getD ⟨#[]⟩
theorem nodeD_yes {d:Dev} (h:d.kind=2∨d.kind=3):nodeD d=some (nodeS d.orig):=by unfold nodeD;rw [if_pos h]
theorem nodeD_no {d:Dev} (h:¬ (d.kind=2∨d.kind=3)):nodeD d=none:=by unfold nodeD;rw [if_neg h]
end Go.Cold
namespace Go.Proofs.YtjgllhlilbchpaaGreatDoor
open Go.RowKit Go.Cold

theorem Replace_any (s:ByteArray) (w:World) (hs:s.size<4294967281) (hok:Ok w):Calls Tryz.prog 56 #[.string s,.string ⟨#[33]⟩,.string ⟨#[47]⟩] w fun e w'=>e=.returned (.string (nodeS s))∧Below w.heap.size w w':=by
 obtain ⟨m,hm⟩:=hok;have hc:=Lib.countB_le ⟨#[33]⟩ (by show 1≤1;omega) _ s (Nat.le_refl _);have h1:(⟨#[47]⟩:ByteArray).size=1:=rfl;refine (Tryz.strings_ReplaceAll s ⟨#[33]⟩ ⟨#[47]⟩ m w hs hm (by show 1≤1;omega) (by rw [h1];omega)).mono ?_;rintro e w' ⟨rfl,hb⟩;exact ⟨by rw [← nodeS_eq s],hb⟩

set_option maxRecDepth 10000 in
theorem RNode_any (d:Dev) (A:Option Addr) (c:Nat) (w:World) (hd:d.orig.size<4294967281) (hok:Ok w):Calls Tryz.prog 53 #[.agg #[.int .i64 d.idx,.int .i64 d.par,.string d.nm,.string d.orig,.string d.sub,.string d.drv,.string d.ali,.int .i64 d.kind,.int .i64 d.num,.slice A d.attrs.length c]] w fun e w'=>e=.returned (.tuple #[.string (nodeV d),.bool (nodeD d).isSome])∧Below w.heap.size w w':=by
 obtain ⟨w0,hw0⟩:∃ w0,w.alloc (.cells #[.int .i64 d.idx,.int .i64 d.par,.string d.nm,.string d.orig,.string d.sub,.string d.drv,.string d.ali,.int .i64 d.kind,.int .i64 d.num,.slice A d.attrs.length c] 32)=w0:=⟨_,rfl⟩;obtain ⟨hb0,hg0,hbox⟩:=box10 hw0;obtain ⟨d0,d1,d2,d3,d4,d5,d6,d7,d8,d9⟩:=hbox.zero;have hcall:=Replace_any d.orig w0 hd (hok.next hb0);have HCALL:=Lh_ hcall;have HB0:=Lh_ hb0;clear hcall hok hbox;go_enter Tryz.func53,Tryz.ntmps53;by_cases h2:d.kind=2
 ·
  have HN:=Lh_ (nodeD_yes (.inl h2))
  have e2:(d.kind != 2)=false:=by simp [h2]
  have HK:=Lh_ h2;clear h2;go_wp2_with fail;refine HCALL.out.mono ?_;rintro e w2 ⟨rfl,hb2⟩;have HB2:=Lh_ hb2;clear hb2;go_wp2;go_ret2;exact ⟨by unfold nodeV;rw [HN.out];rfl,HB0.out.trans (HB2.out.mono HB0.out.size)⟩
 have e2:(d.kind != 2)=true:=by simp [h2]
 by_cases h3:d.kind=3
 ·
  have HN:=Lh_ (nodeD_yes (.inr h3))
  have e3:(d.kind != 3)=false:=by simp [h3]
  have HK:=Lh_ h3;clear h3 h2;go_wp2_with fail;refine HCALL.out.mono ?_;rintro e w2 ⟨rfl,hb2⟩;have HB2:=Lh_ hb2;clear hb2;go_wp2;go_ret2;exact ⟨by unfold nodeV;rw [HN.out];rfl,HB0.out.trans (HB2.out.mono HB0.out.size)⟩
 have e3:(d.kind != 3)=true:=by simp [h3]
 have HN:=Lh_ (nodeD_no (d:=d) (fun h=>h.elim h2 h3));clear h2 h3;go_wp2;go_ret2;exact ⟨by unfold nodeV;rw [HN.out];rfl,HB0.out⟩

theorem index_any (A:Option Addr) (c:Nat) (L:List Dev) (n:Int) (w:World) (B:Nat) (hx:Sl w B A c L):Calls Tryz.prog 85 #[.slice A L.length c,.int .i64 n] w fun e w'=>e=.returned (.int .i64 (idxInt (fun d:Dev=>decide (d.idx=n)) L))∧w'=w:=by
 have hx1:=hx.1;have hx2:=hx.2.1;unfold maxLen at hx2;have HX:=Lh_ hx;clear hx;go_enter Tryz.func85,Tryz.ntmps85;go_wp2_with fail;go_loop [5] (fun i=>∃ k:Nat,k≤L.length∧i=.int .i64 k∧Hid ((L.take k).all (fun d=>!decide (d.idx=n))=true)) (fun i=>L.length - (intOf i).toNat)
 case atStart=>exact ⟨0,Nat.zero_le _,rfl,rfl⟩
 case round =>
  obtain ⟨k,hk,rfl,HA⟩:=hrel;by_cases hlt:k<L.length
  ·
   obtain ⟨b,o,rfl,hb,A2,c2,h1,h2,hdc⟩:=HX.out.dev hlt
   have hd0:=hdc.1;have HLT:=Lh_ hlt;obtain ⟨x,hxx⟩:∃ x,L[k]'hlt=x:=⟨_,rfl⟩;rw [hxx] at hd0;have HXX:=Lh_ hxx;clear hxx h1 h2 hdc;by_cases hn:x.idx=n
   ·
    have e1:(x.idx == n)=true:=beq_iff_eq.2 hn
    have hr:=idxInt_some (p:=fun d:Dev=>decide (d.idx=n)) HLT.out HA.out (by rw [HXX.out];exact decide_eq_true hn);have HR:=Lh_ hr;clear hr hn;go_wp2;go_ret;exact ⟨by rw [HR.out];try rfl,rfl⟩
   ·
    have e1:(x.idx == n)=false:=beq_eq_false_iff_ne.2 hn
    have HN:=Lh_ hn;clear hn;go_wp2;go_round
    case rel=>exact ⟨k+1,by omega,by go_num,all_step HA.out (List.getElem?_eq_getElem HLT.out) (by rw [HXX.out];simp [HN.out])⟩
    case measure=>simp [intOf];omega
  ·
   have hk2:k=L.length:=by omega
   have hr:=idxInt_none (p:=fun d:Dev=>decide (d.idx=n)) (l:=L) (by have:=HA.out;rw [hk2,List.take_length] at this;exact this);have HR:=Lh_ hr;clear hr;go_wp2;go_ret;exact ⟨by rw [HR.out];try rfl,rfl⟩
end Go.Proofs.YtjgllhlilbchpaaGreatDoor
namespace Go.Cold
open Go Go.RowKit
def zero10:List Value:=[.int .i64 0,.int .i64 0,.string ByteArray.empty,.string ByteArray.empty,.string ByteArray.empty,.string ByteArray.empty,.string ByteArray.empty,.int .i64 0,.int .i64 0,.slice none 0 0]
theorem zero_ok:devOk zeroD:=⟨⟨by decide,by decide⟩,⟨by decide,by decide⟩,Nat.zero_le _,Nat.zero_le _,Nat.zero_le _,Nat.zero_le _,Nat.zero_le _,⟨by decide,by decide⟩,⟨by decide,by decide⟩⟩
theorem find_idx (n:Int):∀ L:List Dev,(idxInt (fun d:Dev=>decide (d.idx=n)) L = -1∧findD L n=none)∨∃ (k:Nat) (h:k<L.length),idxInt (fun d:Dev=>decide (d.idx=n)) L=(k:Int)∧findD L n=some (L[k]'h)
 | []=>.inl ⟨rfl,rfl⟩
 | d :: r=>by
  by_cases hd:d.idx=n
  ·
   right
   refine ⟨0,by simp,?_,?_⟩
   · unfold idxInt;rw [List.findIdx?_cons,if_pos (decide_eq_true hd)];try rfl
   · unfold findD;rw [List.find?_cons_of_pos (by exact decide_eq_true hd)];try rfl
  ·
   have hf:findD (d :: r) n=findD r n:=by unfold findD;rw [List.find?_cons_of_neg (by simpa using hd)]
   have hi:∀ i,r.findIdx? (fun d:Dev=>decide (d.idx=n))=i→idxInt (fun d:Dev=>decide (d.idx=n)) (d :: r)=match i with | some j=>((j+1:Nat):Int) | none=>-1:=by
    intro i hri;unfold idxInt;rw [List.findIdx?_cons,if_neg (by simpa using hd),hri];cases i <;> rfl
   rcases find_idx n r with ⟨h1,h2⟩ | ⟨k,hk,h1,h2⟩
   ·
    left
    refine ⟨?_,by rw [hf,h2]⟩;cases hri:r.findIdx? (fun d:Dev=>decide (d.idx=n)) with
    | none=>rw [hi _ hri]
    | some j=>unfold idxInt at h1;rw [hri] at h1;simp only at h1;omega
   ·
    right
    refine ⟨k+1,by simp;omega,?_,by rw [hf,h2];rfl⟩;cases hri:r.findIdx? (fun d:Dev=>decide (d.idx=n)) with
    | none=>unfold idxInt at h1;rw [hri] at h1;simp only at h1;omega
    | some j =>
     rw [hi _ hri];unfold idxInt at h1;rw [hri] at h1;simp only at h1 ⊢;omega
theorem below10 {B gr:Nat} {a w:World} (h:Below B a w) (hg:B≤gr) (v0 v1 v2 v3 v4 v5 v6 v7 v8 v9:Value):Below B a ((((((((((w.setCell ⟨gr,0,none⟩ (v0)).setCell ⟨gr,1,none⟩ (v1)).setCell ⟨gr,2,none⟩ (v2)).setCell ⟨gr,3,none⟩ (v3)).setCell ⟨gr,4,none⟩ (v4)).setCell ⟨gr,5,none⟩ (v5)).setCell ⟨gr,6,none⟩ (v6)).setCell ⟨gr,7,none⟩ (v7)).setCell ⟨gr,8,none⟩ (v8)).setCell ⟨gr,9,none⟩ (v9)) :=
 (((((((((h.setCell (by exact hg) _).setCell (by exact hg) _).setCell (by exact hg) _).setCell (by exact hg) _).setCell (by exact hg) _).setCell (by exact hg) _).setCell (by exact hg) _).setCell (by exact hg) _).setCell (by exact hg) _).setCell (by exact hg) _
end Go.Cold
namespace Go.Proofs.YtjgllhlilbchpaaGreatDoor
open Go.RowKit Go.Cold
theorem info_dev:(Tryz.prog.info? 32).map (fun i=>(i.zero,i.size,i.bytes))=some (some (.agg #[.int .i64 0,.int .i64 0,.string ByteArray.empty,.string ByteArray.empty,.string ByteArray.empty,.string ByteArray.empty,.string ByteArray.empty,.int .i64 0,.int .i64 0,.slice none 0 0]),10,136):=by kernel_rfl
theorem info_dev2:(Tryz.prog.info? 32).map (fun i=>(i.zero,i.size))=some (some (.agg #[.int .i64 0,.int .i64 0,.string ByteArray.empty,.string ByteArray.empty,.string ByteArray.empty,.string ByteArray.empty,.string ByteArray.empty,.int .i64 0,.int .i64 0,.slice none 0 0]),10):=by kernel_rfl
def FindPost (L:List Dev) (n:Int) (B:Nat) (w:World) (e:Ending) (w':World):Prop:=Below w.heap.size w w'∧∃ (d:Dev) (A2:Option Addr) (c2:Nat),d=(findD L n).getD zeroD∧e=.returned (.tuple #[.agg #[.int .i64 d.idx,.int .i64 d.par,.string d.nm,.string d.orig,.string d.sub,.string d.drv,.string d.ali,.int .i64 d.kind,.int .i64 d.num,.slice A2 d.attrs.length c2],.bool (findD L n).isSome])∧devOk d∧Sl w' B A2 c2 d.attrs
set_option maxHeartbeats 4000000 in
set_option maxRecDepth 100000 in
theorem RFind_any (A:Option Addr) (c:Nat) (L:List Dev) (n:Int) (w:World) (B:Nat) (hB:B≤w.heap.size) (hx:Sl w B A c L):Calls Tryz.prog 50 #[.agg #[.slice A L.length c],.int .i64 n] w (FindPost L n B w):=by
 have hzv:=(zero_of_info (P:=Tryz.prog) (t:=32) info_dev2).1;have hx1:=hx.1;have hx2:=hx.2.1;unfold maxLen at hx2;have HX:=Lh_ hx;have HB:=Lh_ hB;clear hx hB;go_enter Tryz.func50,Tryz.ntmps50;go_upto_region 1 with fail
 obtain ⟨w1,hw1⟩:∃ w1,w.alloc (.cells #[.slice A L.length c] 28)=w1:=⟨_,rfl⟩;obtain ⟨w2,hw2⟩:∃ w2,w1.alloc (.cells #[.int .i64 0,.int .i64 0,.string ByteArray.empty,.string ByteArray.empty,.string ByteArray.empty,.string ByteArray.empty,.string ByteArray.empty,.int .i64 0,.int .i64 0,.slice none 0 0] 32)=w2:=⟨_,rfl⟩;have hb1:Below w.heap.size w w1:=by rw [← hw1];exact (Below.refl _ _).alloc (Nat.le_refl _) _
 have hb2:Below w1.heap.size w1 w2:=by rw [← hw2];exact (Below.refl _ _).alloc (Nat.le_refl _) _
 have ht1:BoxL w1 w.heap.size [.slice A L.length c]:=box_mk hw1;have hr2:BoxL w2 w1.heap.size zero10:=box_mk hw2;have hg1:w1.heap.size=w.heap.size+1:=by rw [← hw1];simp
 have hg2:w2.heap.size=w1.heap.size+1:=by rw [← hw2];simp
 have ht2:=ht1.kept (grown_none hb2) (fun e=>by cases e);have hb02:Below w.heap.size w w2:=hb1.trans (hb2.mono hb1.size);try rw [hw1]
 try rw [hw2]
 have HR:=Lh_ hr2;have HT:=Lh_ ht2;have HB2:=Lh_ hb02;have HG:=Lh_ (And.intro hg1 hg2);have hx3:=HX.out.keep (hb02.mono HB.out);have HX2:=Lh_ hx3;clear hw1 hw2 hb1 hb2 ht1 hr2 ht2 hb02 hx3 hg1 hg2;have t0:=HT.out.1 0 _ rfl;try rw [show w.heap.size+1=w1.heap.size from HG.out.1.symm]
 go_wp2_with fail;refine (index_any A c L n w2 B HX2.out).mono ?_;rintro e w3 ⟨rfl,rfl⟩;rcases find_idx n L with ⟨h1,h2⟩ | ⟨k,hk,h1,h2⟩
 ·
  rw [h1]
  have HF:=Lh_ h2;clear h1 h2;obtain ⟨y0,y1,y2,y3,y4,y5,y6,y7,y8,y9⟩:=s10_ HR.out.1;have yf:=HR.out.2.1;go_wp2;refine bodyPost_ret (v:=.tuple #[.agg #[.int .i64 0,.int .i64 0,.string ByteArray.empty,.string ByteArray.empty,.string ByteArray.empty,.string ByteArray.empty,.string ByteArray.empty,.int .i64 0,.int .i64 0,.slice none 0 0],.bool false]) (by simp [results,Tryz.results50,go_sem,y0,y1,y2,y3,y4,y5,y6,y7,y8,y9]) rfl ⟨below10 HB2.out (by have:=HG.out;omega) _ _ _ _ _ _ _ _ _ _,zeroD,none,0,by rw [HF.out];rfl,by rw [HF.out];rfl,zero_ok,Sl.nil_⟩
 ·
  rw [h1]
  have HF:=Lh_ h2;clear h1 h2;obtain ⟨b,o,rfl,hb,A2,c2,hok,hat,hdc⟩:=HX2.out.dev hk;obtain ⟨d,hd⟩:∃ d,L[k]'hk=d:=⟨_,rfl⟩;have HFD:=Lh_ (show findD L n=some d by rw [HF.out,hd]);rw [hd] at hok hat hdc;have HOK:=Lh_ hok;have HAT:=Lh_ hat;have HDC:=Lh_ hdc;have HBB:=Lh_ hb;clear hok hat hdc hb hd HF;obtain ⟨d0,d1,d2,d3,d4,d5,d6,d7,d8,d9⟩:=HDC.out;have i1:¬ (k:Int)<0:=by omega
  have i2:(0:Int)≤(k:Int):=by omega
  obtain ⟨y0,y1,y2,y3,y4,y5,y6,y7,y8,y9⟩:=s10_ HR.out.1;have yf:=HR.out.2.1;go_wp2;refine bodyPost_ret (v:=.tuple #[.agg #[.int .i64 d.idx,.int .i64 d.par,.string d.nm,.string d.orig,.string d.sub,.string d.drv,.string d.ali,.int .i64 d.kind,.int .i64 d.num,.slice A2 d.attrs.length c2],.bool true]) (by simp [results,Tryz.results50,go_sem,y0,y1,y2,y3,y4,y5,y6,y7,y8,y9]) rfl ⟨below10 HB2.out (by have:=HG.out;omega) _ _ _ _ _ _ _ _ _ _,d,A2,c2,by rw [HFD.out];rfl,by rw [HFD.out];rfl,HOK.out,?_⟩;exact HAT.out.keep (below10 (Below.refl B w3) (by have:=HG.out;have:=HB.out;omega) _ _ _ _ _ _ _ _ _ _)
end Go.Proofs.YtjgllhlilbchpaaGreatDoor
namespace Go.Cold
open Go Go.RowKit
theorem cell10_new (w:World) (t:TypeId) (d:Dev) (A2:Option Addr) (c2:Nat):∀ j u,(devCells d A2 c2)[j]? = some u→
  (w.alloc (.cells #[.int .i64 d.idx,.int .i64 d.par,.string d.nm,.string d.orig,.string d.sub,.string d.drv,.string d.ali,.int .i64 d.kind,.int .i64 d.num,.slice A2 d.attrs.length c2] t)).cell? ((⟨w.heap.size,0,none⟩:Addr).add j)=some u:=by
 intro j u hj;rw [add_mk,Nat.zero_add,World.cell?_alloc_at _ _ _ _ rfl];simpa [devCells] using hj
theorem drdS_old {w:World} {B:Nat} {d:Dev} {A2:Option Addr} {c2:Nat} {v:Value} {base:Nat} (h1:devOk d) (h2:Sl w B A2 c2 d.attrs) (hB:B≤base) (hw:base≤w.heap.size) (hv:∀ k,v.ownBlock=some k→base≤k) :
  RepS.rdS w (fun b=>b<B∧b<w.heap.size∧v.ownBlock≠some b) d (devCells d A2 c2):=by
 refine ⟨A2,c2,rfl,h1,SlS.mono (fun b (hb:b<B)=>⟨hb,by omega,fun e=>by have:=hv b e;omega⟩) (fun _ _ _ _ hu=>hu) (SlS_iff.1 h2)⟩
theorem dev_one (d:Dev) (A2:Option Addr) (c2:Nat):∀ u ∈ devCells d A2 c2,u.oneCell'=true:=by
 intro u hu;simp only [devCells,List.mem_cons,List.not_mem_nil,or_false] at hu;rcases hu with rfl | rfl | rfl | rfl | rfl | rfl | rfl | rfl | rfl | rfl <;> rfl
def lenV:Value→Nat
 | .slice _ k _=>k
 | _=>0
def ChRel (w0 w1:World) (B:Nat) (T:TypeId) (L:List Dev) (n:Int) (v:Value) (m:Int) (wr:World):Prop :=
 ∃ acc:List Dev,OwnsS (fun x=>x<B) wr w0.heap.size T v acc∧Below w1.heap.size w1 wr∧acc ++ chainL L (L.length - acc.length) m=chainO L n∧acc.length≤L.length∧okI m∧∀ k,v.ownBlock=some k→w1.heap.size≤k
end Go.Cold
namespace Go.Proofs.YtjgllhlilbchpaaGreatDoor
open Go.RowKit Go.Cold
set_option maxHeartbeats 8000000 in
set_option maxRecDepth 100000 in
theorem RChain_any (A:Option Addr) (c:Nat) (L:List Dev) (n:Int) (w:World) (B:Nat) (hB:B≤w.heap.size) (hx:Sl w B A c L) (hL:L.length≤1000) (hn:okI n):Calls Tryz.prog 61 #[.agg #[.slice A L.length c],.int .i64 n] w fun e w'=>Below w.heap.size w w'∧∃ v,e=.returned v∧OwnsS (fun x=>x<B) w' w.heap.size 32 v (chainO L n):=by
 obtain ⟨i0,hi0,hz0,hz1,hz2⟩:=info_parts info_dev;have HI0:=Lh_ hi0;clear hi0;have HZ0:=Lh_ hz0;clear hz0;have HZ1:=Lh_ hz1;clear hz1;have HZ2:=Lh_ hz2;clear hz2;have hx1:=hx.1;have hx2:=hx.2.1;unfold maxLen at hx2;have HX:=Lh_ hx;have HB:=Lh_ hB;have HL:=Lh_ hL;have HOKN:=Lh_ hn;clear hx hB hL hn;go_enter Tryz.func61,Tryz.ntmps61;go_upto_region 1 with fail
 obtain ⟨w1,hw1⟩:∃ w1,w.alloc (.cells #[.slice A L.length c] 28)=w1:=⟨_,rfl⟩;have hb1:Below w.heap.size w w1:=by rw [← hw1];exact (Below.refl _ _).alloc (Nat.le_refl _) _
 have ht1:BoxL w1 w.heap.size [.slice A L.length c]:=box_mk hw1;have hg1:w1.heap.size=w.heap.size+1:=by rw [← hw1];simp
 rw [hw1];have hrel0:ChRel w w1 B 32 L n (.slice none 0 0) n w1:=⟨[],OwnsS.nil_ _ _ _ _,Below.refl _ _,rfl,Nat.zero_le _,HOKN.out,fun k hk=>by cases hk⟩;have HREL0:=Lh_ hrel0;have HT:=Lh_ ht1;have HB1:=Lh_ hb1;have HG1:=Lh_ hg1;clear hw1 hb1 ht1 hg1 hrel0;go_wp2_with fail;go_loopw [5,1] (fun v u wr=>∃ m:Int,u=.int .i64 m∧Hid (ChRel w w1 B 32 L n v m wr)) (fun v _ _=>L.length - lenV v)
 case atStart=>exact ⟨n,rfl,HREL0⟩
 case round =>
  obtain ⟨m,rfl,hq⟩:=hrel;obtain ⟨acc,hown,hbr,hsp,hal,hom,hvb⟩:=hq.out;have HVB:=Lh_ hvb;clear hvb;clear hq HREL0;obtain ⟨A5,c5,hv,hsl5⟩:=hown.cs;have HV:=Lh_ hv;rw [hv];clear hv;have hac1:=hsl5.1;have hac2:=hsl5.2.1;unfold maxLen at hac2;have t0:=(HT.out.kept (grown_none hbr) (fun e=>by cases e)).1 0 _ rfl;have hb0r:Below w.heap.size w wr:=HB1.out.trans (hbr.mono HB1.out.size);have HOWN:=Lh_ hown;have HBR:=Lh_ hbr;have HSP:=Lh_ hsp;have HAL:=Lh_ hal;have HB0R:=Lh_ hb0r;have HOM:=Lh_ hom;clear hown hbr hsp hb0r hom hsl5;by_cases hlt:acc.length<L.length
  ·
   have i1:(acc.length:Int)<(L.length:Int):=by omega
   have hcall:=RFind_any A c L m wr B (Nat.le_trans HB.out HB0R.out.size) (HX.out.keep (HB0R.out.mono HB.out));have HCALL:=Lh_ hcall;clear hcall;have HLT:=Lh_ hlt;clear hlt hal;go_wp2_with fail;refine HCALL.out.mono ?_;rintro e w3 ⟨hb3,d,A2,c2,hd,rfl,hok,hat⟩;have hst:acc ++ (match findD L m with | none=>[] | some d=>d :: chainL L (L.length - acc.length - 1) d.par)=chainO L n:=by
    have h:=HSP.out;rw [show L.length - acc.length=(L.length - acc.length - 1)+1 by have:=HLT.out;omega,chainL] at h;exact h
   have HST:=Lh_ hst;have HB3:=Lh_ hb3;have HOKD:=Lh_ hok;have HAT:=Lh_ hat;clear hst hok hat t0 i1;have HOWN3:=Lh_ (HOWN.out.below hb3);clear hb3;cases hf:findD L m with
   | none =>
    have hst:=HST.out;rw [hf] at hst;simp only [List.append_nil] at hst;have HFIN:=Lh_ hst;clear hst hf hd;go_upto_region 4 with fail
    obtain ⟨w4,hw4⟩:∃ w4,w3.alloc (.cells #[.int .i64 d.idx,.int .i64 d.par,.string d.nm,.string d.orig,.string d.sub,.string d.drv,.string d.ali,.int .i64 d.kind,.int .i64 d.num,.slice A2 d.attrs.length c2] 32)=w4:=⟨_,rfl⟩;obtain ⟨hb4,hg4,-⟩:=box10 hw4;simp only [hw4];have HOWN4:=Lh_ (HOWN3.out.below hb4);have HBF:=Lh_ (HB0R.out.trans ((HB3.out.trans (hb4.mono HB3.out.size)).mono HB0R.out.size));clear hw4 hb4 hg4;go_wp2;go_ret;exact ⟨HBF.out,_,rfl,by rw [← HFIN.out,← HV.out];exact HOWN4.out⟩
   | some d' =>
    rw [hf] at hd;have hdd:d=d':=hd;subst hdd;have hst:=HST.out;rw [hf] at hst;simp only at hst;have HST2:=Lh_ hst;clear hst hf hd;go_upto_region 4 with fail
    obtain ⟨w4,hw4⟩:∃ w4,w3.alloc (.cells #[.int .i64 d.idx,.int .i64 d.par,.string d.nm,.string d.orig,.string d.sub,.string d.drv,.string d.ali,.int .i64 d.kind,.int .i64 d.num,.slice A2 d.attrs.length c2] 32)=w4:=⟨_,rfl⟩;obtain ⟨hb4,hg4,hbox4⟩:=box10 hw4;have hbl4:BoxL w4 w3.heap.size (devCells d A2 c2):=box_mk hw4;simp only [hw4];obtain ⟨x0,x1,x2,x3,x4,x5,x6,x7,x8,x9⟩:=hbox4.zero;obtain ⟨w5,hw5⟩:∃ w5,w4.alloc (.cells #[.int .i64 d.idx,.int .i64 d.par,.string d.nm,.string d.orig,.string d.sub,.string d.drv,.string d.ali,.int .i64 d.kind,.int .i64 d.num,.slice A2 d.attrs.length c2] 32)=w5:=⟨_,rfl⟩;obtain ⟨hb5,hg5,-⟩:=box10 hw5;have hnews:=cell10_new w4 32 d A2 c2;rw [hw5] at hnews;have hown4:=HOWN3.out.below hb4;have hvlt:=HOWN3.out.lt;obtain ⟨css,o1,o2,o3⟩:=hown4.below hb5;have hat5:=(HAT.out.keep (hb4.mono (by have:=HB0R.out.size;have:=HB3.out.size;have:=HB.out;omega))).keep (hb5.mono (by have:=HB0R.out.size;have:=HB3.out.size;have:=HB.out;omega));have hrd5:=drdS_old (v:=u5) HOKD.out hat5 HB.out (by have:=HB0R.out.size;have:=HB3.out.size;omega) (fun k hk=>(hvlt k hk).1);have hbl5:=hbl4.kept (grown_none hb5) (fun e=>by cases e);have HO2:=Lh_ o2;have HO3:=Lh_ o3;have HNEWS:=Lh_ hnews;have HRD5:=Lh_ hrd5;have HBL5:=Lh_ hbl5;have HO1:=Lh_ o1;have HVLT:=Lh_ hvlt;have HVW:=Lh_ (show ∀ k,u5.ownBlock=some k→w1.heap.size≤k from fun k hk=>HVB.out k hk);have HSZ:=Lh_ (And.intro hg4 hg5);have HB34:=Lh_ (hb4.trans (hb5.mono hb4.size));clear hw4 hb4 hg4 hbox4 hbl4 hb5 hg5 hnews hown4 o2 o3 hat5 hrd5 hbl5 hvlt;go_upto_region 5 with fail
    rw [← HV.out];go_wp2_with (at_builtin;go_must (refine wpList_append_own_at _ rfl _ _ 26 rfl w.heap.size 32 i0 _ 10 136 Tryz.underlying26 HI0.out HZ0.out HZ1.out HZ2.out rfl (by decide) _ _ _ rfl o1 ⟨w4.heap.size,0,none⟩ 1 1 _ rfl rfl HNEWS.out (dev_one d A2 c2) (by have:=HLT.out;have:=HL.out;unfold maxLen;omega) (by have:=HLT.out;have:=HL.out;omega) (by have:=HSZ.out;have:=HB0R.out.size;have:=HB3.out.size;omega) ?_);intro v' w6 hown' hgrow _ hat';have hown6:=OwnsS.app (w:=w5) HO1.out HO2.out HO3.out HRD5.out hown' hgrow (fun q hq=>Or.elim hat' (fun h=>.inl (h.symm.trans hq)) (fun h=>.inr (by rw [hq] at h;have:=Option.some.inj h;omega)));have hbl6:=HBL5.out.kept hgrow (fun e=>by have:=(HVLT.out _ e.symm).2;omega);have y1:=hbl6.1 1 _ rfl;have HVN:=Lh_ (show ∀ k,v'.ownBlock=some k→w1.heap.size≤k from fun q hq=>Or.elim hat' (fun h=>HVW.out q (h.symm.trans hq)) (fun h=>by rw [hq] at h;have:=Option.some.inj h;have:=HSZ.out;have:=HBR.out.size;have:=HB3.out.size;omega));have HOWN6:=Lh_ hown6;have HGROW:=Lh_ hgrow;clear hown6 hown' hgrow hat' hbl6 x0 x1 x2 x3 x4 x5 x6 x7 x8 x9 o1 hw5);have hbr6:Below w1.heap.size w1 w6:=by
     have h1:Below wr.heap.size wr w5:=HB3.out.trans (HB34.out.mono HB3.out.size);have h2:Below w1.heap.size w1 w5:=HBR.out.trans (h1.mono HBR.out.size);exact h2.grown HGROW.out h2.size (fun k hk=>HVW.out k hk)
    have hrel6:ChRel w w1 B 32 L n v' d.par w6:=by
     refine ⟨acc ++ [d],HOWN6.out,hbr6,?_,by rw [List.length_append,List.length_singleton];have:=HLT.out;omega,HOKD.out.2.1,HVN.out⟩;rw [List.length_append,List.length_singleton,List.append_assoc,List.singleton_append,show L.length - (acc.length+1)=L.length - acc.length - 1 by omega];exact HST2.out
    have hmeas:L.length - lenV v'<L.length - lenV (.slice A5 acc.length c5):=by
     obtain ⟨A6,c6,hv6,-⟩:=HOWN6.out.cs;rw [hv6];show L.length - (acc ++ [d]).length<L.length - acc.length
     rw [List.length_append,List.length_singleton];have:=HLT.out;omega
    have HREL6:=Lh_ hrel6;have HMEAS:=Lh_ hmeas;clear hbr6 hrel6 hmeas;try go_wp2
    go_roundw
    case rel=>exact ⟨d.par,rfl,HREL6⟩
    case measure=>first | exact HMEAS.out | (rw [HV.out];exact HMEAS.out)
  ·
   have i1:¬ (acc.length:Int)<(L.length:Int):=by omega
   have hfin:acc=chainO L n:=by
    have h:=HSP.out;rw [show L.length - acc.length=0 by omega,chainL,List.append_nil] at h;exact h
   have HFIN:=Lh_ hfin;clear hfin hlt;go_wp2;go_ret;exact ⟨HB0R.out,_,rfl,by rw [← HFIN.out,← HV.out];exact HOWN.out⟩
end Go.Proofs.YtjgllhlilbchpaaGreatDoor
namespace Go.Cold
open Go Go.RowKit
def OrRel (w0:World) (T:TypeId) (names:List ByteArray) (v:Value) (j:Int) (w2 wr:World):Prop :=
 ∃ k:Nat,j=(names.length:Int) - 1 - k∧k≤names.length∧OwnsS (fun _=>False) wr w0.heap.size T v (names.take k)∧Below w2.heap.size w2 wr∧∀ q,v.ownBlock=some q→w2.heap.size≤q
end Go.Cold
namespace Go.Proofs.YtjgllhlilbchpaaGreatDoor
open Go.RowKit Go.Cold
theorem info_txt:(Tryz.prog.info? 9).map (fun i=>(i.zero,i.size,i.bytes))=some (some (.string ByteArray.empty),1,16):=by kernel_rfl
set_option maxHeartbeats 8000000 in
set_option maxRecDepth 100000 in
theorem ROrigin_any (A:Option Addr) (c:Nat) (L:List Dev) (n:Int) (w:World) (B:Nat) (hB:B≤w.heap.size) (hx:Sl w B A c L) (hL:L.length≤1000) (hn:okI n):Calls Tryz.prog 86 #[.agg #[.slice A L.length c],.int .i64 n] w fun e w'=>Below w.heap.size w w'∧∃ v,e=.returned v∧OwnsS (fun _=>False) w' w.heap.size 9 v ((chainO L n).reverse.map (·.orig)):=by
 obtain ⟨i0,hi0,hz0,hz1,hz2⟩:=info_parts info_txt;have HI0:=Lh_ hi0;clear hi0;have HZ0:=Lh_ hz0;clear hz0;have HZ1:=Lh_ hz1;clear hz1;have HZ2:=Lh_ hz2;clear hz2;have hlen:(chainO L n).length≤L.length:=chain_len L L.length n;obtain ⟨ch,hchd⟩:∃ ch,chainO L n=ch:=⟨_,rfl⟩;rw [hchd] at hlen ⊢;obtain ⟨names,hnm⟩:∃ ns,ch.reverse.map (·.orig)=ns:=⟨_,rfl⟩;rw [hnm];have hnl:names.length=ch.length:=by rw [← hnm];simp
 have HNM:=Lh_ hnm;have HNL:=Lh_ hnl;have HCHD:=Lh_ hchd;clear hnm hnl hchd;have HX:=Lh_ hx;have HB:=Lh_ hB;have HL:=Lh_ hL;have HOKN:=Lh_ hn;clear hx hB hL hn;go_enter Tryz.func86,Tryz.ntmps86;go_upto_region 2 with fail
 obtain ⟨w1,hw1⟩:∃ w1,w.alloc (.cells #[.slice A L.length c] 28)=w1:=⟨_,rfl⟩;have hb1:Below w.heap.size w w1:=by rw [← hw1];exact (Below.refl _ _).alloc (Nat.le_refl _) _
 have ht1:BoxL w1 w.heap.size [.slice A L.length c]:=box_mk hw1;rw [hw1];have t0:=ht1.1 0 _ rfl;have hcall:=RChain_any A c L n w1 B (Nat.le_trans HB.out hb1.size) (HX.out.keep (hb1.mono HB.out)) HL.out HOKN.out;have HB1:=Lh_ hb1;have HCALL:=Lh_ hcall;clear hw1 hb1 ht1 hcall;go_wp2_with fail;refine HCALL.out.mono ?_;rintro e w2 ⟨hb2,v,rfl,hown⟩;have hch:ch.length≤1000:=Nat.le_trans hlen HL.out;rw [HCHD.out] at hown;obtain ⟨A5,c5,rfl,hsl⟩:=hown.sl;have hs1:=hsl.1;have hs2:=hsl.2.1;unfold maxLen at hs2;have HSL:=Lh_ hsl;have HB2:=tb_ HB1 hb2;have HCH:=Lh_ hch;clear hown hsl hb2 hlen t0 hch;have hrel0:OrRel w 9 names (.slice none 0 0) ((ch.length:Int) - 1) w2 w2:=⟨0,by rw [HNL.out];omega,Nat.zero_le _,by rw [List.take_zero];exact OwnsS.nil_ _ _ _ _,Below.refl _ _,fun k hk=>by cases hk⟩;have HREL0:=Lh_ hrel0;have hwr0:wrap64 ((ch.length:Int) - 1)=(ch.length:Int) - 1:=by have:=HCH.out;unfold wrap64;omega
 have hwr0':IntKind.i64.wrap ((ch.length:Int) - 1)=(ch.length:Int) - 1:=by have:=HCH.out;rw [IntKind.wrap_i64];omega
 clear hrel0;go_wp2_with fail;try rw [hwr0]
 clear hwr0 hwr0';go_loopw [5,7] (fun v i wr=>∃ j:Int,i=.int .i64 j∧Hid (OrRel w 9 names v j w2 wr)) (fun _ i _=>(intOf i+1).toNat)
 case atStart=>exact ⟨_,rfl,HREL0⟩
 case round =>
  obtain ⟨j,rfl,hq⟩:=hrel;obtain ⟨k,hj,hk,hown,hbr,hvb⟩:=hq.out;clear hq HREL0;have HOWN:=Lh_ hown;have HBR:=Lh_ hbr;have HVB:=Lh_ hvb;have HJ:=Lh_ (And.intro hj hk);clear hown hbr hvb hj hk;by_cases h0:0≤j
  ·
   obtain ⟨t,rfl⟩:=Int.eq_ofNat_of_zero_le h0
   have ht:t<ch.length:=by have:=HJ.out;have:=HNL.out;omega
   obtain ⟨b,o,rfl,hb,A2,c2,hok,hat,hdc⟩:=(HSL.out.next (Nat.le_refl _) HBR.out).dev ht;have x3:=hdc.2.2.2.1;obtain ⟨d,hd⟩:∃ d,ch[t]'ht=d:=⟨_,rfl⟩;rw [hd] at x3 hok;have hname:names[k]? = some d.orig:=by
    rw [← HNM.out,List.getElem?_map,List.getElem?_reverse (by have:=HJ.out;have:=HNL.out;omega),show ch.length - 1 - k=t by have:=HJ.out;have:=HNL.out;omega,List.getElem?_eq_getElem ht,hd];rfl
   have HNAME:=Lh_ hname;have HT:=Lh_ ht;have HOKD:=Lh_ hok;clear hname ht hok hat hdc hd hb;obtain ⟨w3,hw3⟩:∃ w3,wr.alloc (.cells #[.string d.orig] 9)=w3:=⟨_,rfl⟩;have hb3:Below wr.heap.size wr w3:=by rw [← hw3];exact (Below.refl _ _).alloc (Nat.le_refl _) _
   have hg3:w3.heap.size=wr.heap.size+1:=by rw [← hw3];simp
   have hnews:=cell_one_new wr (.string d.orig) 9;rw [hw3] at hnews;have hvlt:=HOWN.out.lt;obtain ⟨css,o1,o2,o3⟩:=HOWN.out.below hb3;have hlk:(names.take k).length=k:=by rw [List.length_take];have:=HJ.out;omega
   have HO1:=Lh_ o1;have HO2:=Lh_ o2;have HO3:=Lh_ o3;have HNEWS:=Lh_ hnews;have HB3:=Lh_ hb3;have HG3:=Lh_ hg3;have HLK:=Lh_ hlk;have hwr:wrap64 ((t:Int) - 1)=(t:Int) - 1:=by have:=HCH.out;have:=HT.out;unfold wrap64;omega
   have hwr':IntKind.i64.wrap ((t:Int) - 1)=(t:Int) - 1:=by have:=HCH.out;have:=HT.out;rw [IntKind.wrap_i64];omega
   clear o2 o3 hnews hb3 hg3 hvlt hlk;go_wp2_with (at_builtin;go_must (refine wpList_append_own_at _ rfl _ _ 47 rfl w.heap.size 9 i0 _ 1 16 Tryz.underlying47 HI0.out HZ0.out HZ1.out HZ2.out rfl (by decide) _ _ _ rfl o1 ⟨wr.heap.size,0,none⟩ 1 1 _ rfl rfl HNEWS.out (fun u hu=>by simp at hu;subst hu;rfl) (by rw [HLK.out];have:=HJ.out;have:=HNL.out;have:=HCH.out;unfold maxLen;omega) (by rw [HLK.out];have:=HJ.out;have:=HNL.out;have:=HCH.out;omega) (by have:=HG3.out;have:=HBR.out.size;have:=HB2.out.size;omega) ?_);intro v' w4 hown' hgrow _ hat';have hown4:=OwnsS.app (w:=w3) HO1.out HO2.out HO3.out (x:=d.orig) (cs:=[.string d.orig]) ⟨rfl,HOKD.out.2.2.2.1⟩ hown' hgrow (fun q hq=>Or.elim hat' (fun h=>.inl (h.symm.trans hq)) (fun h=>.inr (by rw [hq] at h;have:=Option.some.inj h;omega)));have HVN:=Lh_ (show ∀ q,v'.ownBlock=some q→w2.heap.size≤q from fun q hq=>Or.elim hat' (fun h=>HVB.out q (h.symm.trans hq)) (fun h=>by rw [hq] at h;have:=Option.some.inj h;have:=HG3.out;have:=HBR.out.size;omega));have HOWN4:=Lh_ hown4;have HGROW:=Lh_ hgrow;clear hown4 hown' hgrow hat' o1 hw3 x3);have hbr4:Below w2.heap.size w2 w4:=by
    have h1:Below w2.heap.size w2 w3:=HBR.out.trans (HB3.out.mono HBR.out.size);exact h1.grown HGROW.out h1.size (fun q hq=>HVB.out q hq)
   have hrel4:OrRel w 9 names v' ((t:Int) - 1) w2 w4:=by
    refine ⟨k+1,by have:=HJ.out;omega,by have:=HJ.out;have:=HNL.out;omega,?_,hbr4,HVN.out⟩;rw [List.take_add_one,HNAME.out];exact HOWN4.out
   have HREL4:=Lh_ hrel4;clear hrel4 hbr4;try go_wp2
   go_roundw
   case rel=>exact ⟨_,by first | rfl | (simp only [hwr,hwr']),HREL4⟩
   case measure=>first | (simp [intOf];done) | (simp [intOf];omega) | (simp [intOf,hwr,hwr'];omega)
  ·
   have hfin:names.take k=names:=List.take_of_length_le (by have:=HJ.out;omega)
   have HFIN:=Lh_ hfin;clear hfin;go_wp2;go_ret;exact ⟨HB2.out.trans (HBR.out.mono HB2.out.size),_,rfl,by have h:=HOWN.out;rw [HFIN.out] at h;exact h⟩
end Go.Proofs.YtjgllhlilbchpaaGreatDoor
namespace Go.Cold
open Go Go.RowKit
theorem node_size {d:Dev} {s:ByteArray} (h:nodeD d=some s):s.size=d.orig.size:=by
 unfold nodeD at h;split at h
 · rw [← Option.some.inj h,nodeS_size]
 · cases h
end Go.Cold
namespace Go.Proofs.YtjgllhlilbchpaaGreatDoor
open Go.RowKit Go.Cold
set_option maxHeartbeats 8000000 in
set_option maxRecDepth 100000 in
theorem RClash_any (a b:Dev) (A1 A2:Option Addr) (c1 c2:Nat) (w:World) (ha:a.orig.size≤4294967280) (hb:b.orig.size≤4294967280) (hok:Ok w):Calls Tryz.prog 88 #[.agg #[.int .i64 a.idx,.int .i64 a.par,.string a.nm,.string a.orig,.string a.sub,.string a.drv,.string a.ali,.int .i64 a.kind,.int .i64 a.num,.slice A1 a.attrs.length c1],.agg #[.int .i64 b.idx,.int .i64 b.par,.string b.nm,.string b.orig,.string b.sub,.string b.drv,.string b.ali,.int .i64 b.kind,.int .i64 b.num,.slice A2 b.attrs.length c2]] w fun e w'=>e=.returned (.bool (clashB a b))∧Below w.heap.size w w':=by
 have HA:=Lh_ ha;have HB:=Lh_ hb;have HOK:=Lh_ hok;clear ha hb hok;go_enter Tryz.func88,Tryz.ntmps88;go_upto_region 1 with fail
 obtain ⟨w1,hw1⟩:∃ w1,w.alloc (.cells #[.int .i64 a.idx,.int .i64 a.par,.string a.nm,.string a.orig,.string a.sub,.string a.drv,.string a.ali,.int .i64 a.kind,.int .i64 a.num,.slice A1 a.attrs.length c1] 32)=w1:=⟨_,rfl⟩;obtain ⟨w2,hw2⟩:∃ w2,w1.alloc (.cells #[.int .i64 b.idx,.int .i64 b.par,.string b.nm,.string b.orig,.string b.sub,.string b.drv,.string b.ali,.int .i64 b.kind,.int .i64 b.num,.slice A2 b.attrs.length c2] 32)=w2:=⟨_,rfl⟩;obtain ⟨hb1,hg1,hx1⟩:=box10 hw1;obtain ⟨hb2,hg2,hx2⟩:=box10 hw2;try rw [hw1]
 try rw [hw2]
 have e1:w.heap.size+1=w1.heap.size:=hg1.symm;try rw [e1]
 have hp:=hx1.keep hb2 (by omega);have HP:=Lh_ hp;have HQ:=Lh_ hx2;have HB2:=Lh_ (hb1.trans (hb2.mono hb1.size));have HG:=Lh_ (And.intro hg1 hg2);clear hw1 hw2 hb1 hb2 hg1 hg2 hx1 hx2 hp e1;obtain ⟨p0,p1,p2,p3,p4,p5,p6,p7,p8,p9⟩:=HP.out.zero;obtain ⟨q0,q1,q2,q3,q4,q5,q6,q7,q8,q9⟩:=HQ.out.zero;by_cases ha4:a.kind=4
 ·
  have ea:(a.kind == 4)=true:=beq_iff_eq.2 ha4
  by_cases hb4:b.kind=4
  ·
   have eb:(b.kind == 4)=true:=beq_iff_eq.2 hb4
   by_cases hnm:a.nm=b.nm
   ·
    have en:(a.nm.toList == b.nm.toList)=true:=by rw [ba_beq];exact decide_eq_true hnm
    have HCB:=Lh_ (show clashB a b=true by unfold clashB;simp [ha4,hb4,hnm]);clear ha4 hb4 hnm;go_wp2;go_ret;exact ⟨ret_bool (by rw [HCB.out];try rfl),HB2.out⟩
   have en0:(a.nm.toList == b.nm.toList)=false:=by rw [ba_beq];exact decide_eq_false hnm
   have HF4:=Lh_ (show (decide (a.kind=4) && (decide (b.kind=4) && decide (a.nm=b.nm)))=false by simp [hnm]);clear ha4 hb4 hnm;go_wp2_with fail;refine (RNode_any a A1 c1 w2 (by have:=HA.out;omega) (HOK.out.next HB2.out)).mono ?_;rintro e w3 ⟨rfl,hb3⟩;clear p0 p1 p2 p3 p4 p5 p6 p7 p8 p9 q0 q1 q2 q3 q4 q5 q6 q7 q8 q9;obtain ⟨p0,p1,p2,p3,p4,p5,p6,p7,p8,p9⟩:=(HP.out.keep hb3 (by have:=HG.out;omega)).zero;obtain ⟨q0,q1,q2,q3,q4,q5,q6,q7,q8,q9⟩:=(HQ.out.keep hb3 (by have:=HG.out;omega)).zero;have HB3:=Lh_ hb3;have HB03:=tb_ HB2 hb3;clear hb3;go_wp2_with fail;refine (RNode_any b A2 c2 w3 (by have:=HB.out;omega) (HOK.out.next HB03.out)).mono ?_;rintro e w4 ⟨rfl,hb4⟩;clear p0 p1 p2 p3 p4 p5 p6 p7 p8 p9 q0 q1 q2 q3 q4 q5 q6 q7 q8 q9;have hb24:=HB3.out.trans (hb4.mono HB3.out.size);obtain ⟨p0,p1,p2,p3,p4,p5,p6,p7,p8,p9⟩:=(HP.out.keep hb24 (by have:=HG.out;omega)).zero;obtain ⟨q0,q1,q2,q3,q4,q5,q6,q7,q8,q9⟩:=(HQ.out.keep hb24 (by have:=HG.out;omega)).zero;have HB4:=tb_ HB03 hb4;clear hb4 hb24;unfold nodeV;cases hna:nodeD a with
   | none =>
    simp only [Option.isSome_none,Option.getD_none];have HCB:=Lh_ (show clashB a b=false by unfold clashB;rw [hna];simp only [HF4.out];rfl);clear hna;go_wp2;go_ret;exact ⟨ret_bool (by rw [HCB.out];try rfl),HB4.out⟩
   | some s =>
    cases hnb:nodeD b with
    | none =>
     simp only [Option.isSome_none,Option.isSome_some,Option.getD_none,Option.getD_some];have HCB:=Lh_ (show clashB a b=false by unfold clashB;rw [hna,hnb];simp only [HF4.out];rfl);clear hna hnb;go_wp2;go_ret;exact ⟨ret_bool (by rw [HCB.out];try rfl),HB4.out⟩
    | some u =>
     simp only [Option.isSome_some,Option.getD_some];have HSS:=Lh_ (And.intro (node_size hna) (node_size hnb));have HNA:=Lh_ hna;have HNB:=Lh_ hnb;clear hna hnb;have hfst:=HF4.out;have HFST:=Lh_ hfst;clear hfst;by_cases hkk:a.kind=b.kind
     ·
      have ek:(a.kind == b.kind)=true:=beq_iff_eq.2 hkk
      by_cases hnn:a.num=b.num
      ·
       have en:(a.num == b.num)=true:=beq_iff_eq.2 hnn
       have HCB:=Lh_ (show clashB a b=true by unfold clashB;rw [HNA.out,HNB.out];simp [hkk,hnn]);clear hkk hnn;go_wp2;go_ret;exact ⟨ret_bool (by rw [HCB.out];try rfl),HB4.out⟩
      have en:(a.num == b.num)=false:=beq_eq_false_iff_ne.2 hnn;have HKN:=Lh_ (show (decide (a.kind=b.kind) && decide (a.num=b.num))=false by simp [hnn]);clear hkk hnn;by_cases hsu:s=u
      ·
       have es:(s.toList == u.toList)=true:=by rw [ba_beq];exact decide_eq_true hsu
       have HCB:=Lh_ (show clashB a b=true by unfold clashB;rw [HNA.out,HNB.out];simp [hsu]);clear hsu;go_wp2;go_ret;exact ⟨ret_bool (by rw [HCB.out];try rfl),HB4.out⟩
      have es:(s.toList == u.toList)=false:=by rw [ba_beq];exact decide_eq_false hsu
      have HSU:=Lh_ hsu;clear hsu;go_wp2_with fail;refine (RBeneath_any s u w4 (by rw [HSS.out.1];exact HA.out)).mono ?_;rintro e w5 ⟨rfl,hw5⟩;subst hw5;cases hsb:belowB s u with
      | true =>
       have HCB:=Lh_ (show clashB a b=true by unfold clashB;rw [HNA.out,HNB.out];simp [hsb]);clear hsb;go_wp2;go_ret;exact ⟨ret_bool (by rw [HCB.out];try rfl),HB4.out⟩
      | false =>
       have HSB:=Lh_ hsb;clear hsb;go_wp2_with fail;refine (RBeneath_any u s w4 (by rw [HSS.out.2];exact HB.out)).mono ?_;rintro e w5 ⟨rfl,hw5⟩;subst hw5;have HCB:=Lh_ (show clashB a b=belowB u s by unfold clashB;rw [HNA.out,HNB.out];have hfst:=HFST.out;have hkn:=HKN.out;simp [HSU.out,HSB.out,hfst,hkn]);obtain ⟨z,hz⟩:∃ z,belowB u s=z:=⟨_,rfl⟩;rw [hz];have HZ:=Lh_ hz;clear hz;go_wp2;go_ret;exact ⟨ret_bool (by rw [HCB.out,HZ.out];try rfl),HB4.out⟩
     have ek:(a.kind == b.kind)=false:=beq_eq_false_iff_ne.2 hkk;have HKN:=Lh_ (show (decide (a.kind=b.kind) && decide (a.num=b.num))=false by simp [hkk]);clear hkk;by_cases hsu:s=u
     ·
      have es:(s.toList == u.toList)=true:=by rw [ba_beq];exact decide_eq_true hsu
      have HCB:=Lh_ (show clashB a b=true by unfold clashB;rw [HNA.out,HNB.out];simp [hsu]);clear hsu;go_wp2;go_ret;exact ⟨ret_bool (by rw [HCB.out];try rfl),HB4.out⟩
     have es:(s.toList == u.toList)=false:=by rw [ba_beq];exact decide_eq_false hsu
     have HSU:=Lh_ hsu;clear hsu;go_wp2_with fail;refine (RBeneath_any s u w4 (by rw [HSS.out.1];exact HA.out)).mono ?_;rintro e w5 ⟨rfl,hw5⟩;subst hw5;cases hsb:belowB s u with
     | true =>
      have HCB:=Lh_ (show clashB a b=true by unfold clashB;rw [HNA.out,HNB.out];simp [hsb]);clear hsb;go_wp2;go_ret;exact ⟨ret_bool (by rw [HCB.out];try rfl),HB4.out⟩
     | false =>
      have HSB:=Lh_ hsb;clear hsb;go_wp2_with fail;refine (RBeneath_any u s w4 (by rw [HSS.out.2];exact HB.out)).mono ?_;rintro e w5 ⟨rfl,hw5⟩;subst hw5;have HCB:=Lh_ (show clashB a b=belowB u s by unfold clashB;rw [HNA.out,HNB.out];have hfst:=HFST.out;have hkn:=HKN.out;simp [HSU.out,HSB.out,hfst,hkn]);obtain ⟨z,hz⟩:∃ z,belowB u s=z:=⟨_,rfl⟩;rw [hz];have HZ:=Lh_ hz;clear hz;go_wp2;go_ret;exact ⟨ret_bool (by rw [HCB.out,HZ.out];try rfl),HB4.out⟩
  have eb:(b.kind == 4)=false:=beq_eq_false_iff_ne.2 hb4;have HF4:=Lh_ (show (decide (a.kind=4) && (decide (b.kind=4) && decide (a.nm=b.nm)))=false by simp [hb4]);clear ha4 hb4;go_wp2_with fail;refine (RNode_any a A1 c1 w2 (by have:=HA.out;omega) (HOK.out.next HB2.out)).mono ?_;rintro e w3 ⟨rfl,hb3⟩;clear p0 p1 p2 p3 p4 p5 p6 p7 p8 p9 q0 q1 q2 q3 q4 q5 q6 q7 q8 q9;obtain ⟨p0,p1,p2,p3,p4,p5,p6,p7,p8,p9⟩:=(HP.out.keep hb3 (by have:=HG.out;omega)).zero;obtain ⟨q0,q1,q2,q3,q4,q5,q6,q7,q8,q9⟩:=(HQ.out.keep hb3 (by have:=HG.out;omega)).zero;have HB3:=Lh_ hb3;have HB03:=tb_ HB2 hb3;clear hb3;go_wp2_with fail;refine (RNode_any b A2 c2 w3 (by have:=HB.out;omega) (HOK.out.next HB03.out)).mono ?_;rintro e w4 ⟨rfl,hb4⟩;clear p0 p1 p2 p3 p4 p5 p6 p7 p8 p9 q0 q1 q2 q3 q4 q5 q6 q7 q8 q9;have hb24:=HB3.out.trans (hb4.mono HB3.out.size);obtain ⟨p0,p1,p2,p3,p4,p5,p6,p7,p8,p9⟩:=(HP.out.keep hb24 (by have:=HG.out;omega)).zero;obtain ⟨q0,q1,q2,q3,q4,q5,q6,q7,q8,q9⟩:=(HQ.out.keep hb24 (by have:=HG.out;omega)).zero;have HB4:=tb_ HB03 hb4;clear hb4 hb24;unfold nodeV;cases hna:nodeD a with
  | none =>
   simp only [Option.isSome_none,Option.getD_none];have HCB:=Lh_ (show clashB a b=false by unfold clashB;rw [hna];simp only [HF4.out];rfl);clear hna;go_wp2;go_ret;exact ⟨ret_bool (by rw [HCB.out];try rfl),HB4.out⟩
  | some s =>
   cases hnb:nodeD b with
   | none =>
    simp only [Option.isSome_none,Option.isSome_some,Option.getD_none,Option.getD_some];have HCB:=Lh_ (show clashB a b=false by unfold clashB;rw [hna,hnb];simp only [HF4.out];rfl);clear hna hnb;go_wp2;go_ret;exact ⟨ret_bool (by rw [HCB.out];try rfl),HB4.out⟩
   | some u =>
    simp only [Option.isSome_some,Option.getD_some];have HSS:=Lh_ (And.intro (node_size hna) (node_size hnb));have HNA:=Lh_ hna;have HNB:=Lh_ hnb;clear hna hnb;have hfst:=HF4.out;have HFST:=Lh_ hfst;clear hfst;by_cases hkk:a.kind=b.kind
    ·
     have ek:(a.kind == b.kind)=true:=beq_iff_eq.2 hkk
     by_cases hnn:a.num=b.num
     ·
      have en:(a.num == b.num)=true:=beq_iff_eq.2 hnn
      have HCB:=Lh_ (show clashB a b=true by unfold clashB;rw [HNA.out,HNB.out];simp [hkk,hnn]);clear hkk hnn;go_wp2;go_ret;exact ⟨ret_bool (by rw [HCB.out];try rfl),HB4.out⟩
     have en:(a.num == b.num)=false:=beq_eq_false_iff_ne.2 hnn;have HKN:=Lh_ (show (decide (a.kind=b.kind) && decide (a.num=b.num))=false by simp [hnn]);clear hkk hnn;by_cases hsu:s=u
     ·
      have es:(s.toList == u.toList)=true:=by rw [ba_beq];exact decide_eq_true hsu
      have HCB:=Lh_ (show clashB a b=true by unfold clashB;rw [HNA.out,HNB.out];simp [hsu]);clear hsu;go_wp2;go_ret;exact ⟨ret_bool (by rw [HCB.out];try rfl),HB4.out⟩
     have es:(s.toList == u.toList)=false:=by rw [ba_beq];exact decide_eq_false hsu
     have HSU:=Lh_ hsu;clear hsu;go_wp2_with fail;refine (RBeneath_any s u w4 (by rw [HSS.out.1];exact HA.out)).mono ?_;rintro e w5 ⟨rfl,hw5⟩;subst hw5;cases hsb:belowB s u with
     | true =>
      have HCB:=Lh_ (show clashB a b=true by unfold clashB;rw [HNA.out,HNB.out];simp [hsb]);clear hsb;go_wp2;go_ret;exact ⟨ret_bool (by rw [HCB.out];try rfl),HB4.out⟩
     | false =>
      have HSB:=Lh_ hsb;clear hsb;go_wp2_with fail;refine (RBeneath_any u s w4 (by rw [HSS.out.2];exact HB.out)).mono ?_;rintro e w5 ⟨rfl,hw5⟩;subst hw5;have HCB:=Lh_ (show clashB a b=belowB u s by unfold clashB;rw [HNA.out,HNB.out];have hfst:=HFST.out;have hkn:=HKN.out;simp [HSU.out,HSB.out,hfst,hkn]);obtain ⟨z,hz⟩:∃ z,belowB u s=z:=⟨_,rfl⟩;rw [hz];have HZ:=Lh_ hz;clear hz;go_wp2;go_ret;exact ⟨ret_bool (by rw [HCB.out,HZ.out];try rfl),HB4.out⟩
    have ek:(a.kind == b.kind)=false:=beq_eq_false_iff_ne.2 hkk;have HKN:=Lh_ (show (decide (a.kind=b.kind) && decide (a.num=b.num))=false by simp [hkk]);clear hkk;by_cases hsu:s=u
    ·
     have es:(s.toList == u.toList)=true:=by rw [ba_beq];exact decide_eq_true hsu
     have HCB:=Lh_ (show clashB a b=true by unfold clashB;rw [HNA.out,HNB.out];simp [hsu]);clear hsu;go_wp2;go_ret;exact ⟨ret_bool (by rw [HCB.out];try rfl),HB4.out⟩
    have es:(s.toList == u.toList)=false:=by rw [ba_beq];exact decide_eq_false hsu
    have HSU:=Lh_ hsu;clear hsu;go_wp2_with fail;refine (RBeneath_any s u w4 (by rw [HSS.out.1];exact HA.out)).mono ?_;rintro e w5 ⟨rfl,hw5⟩;subst hw5;cases hsb:belowB s u with
    | true =>
     have HCB:=Lh_ (show clashB a b=true by unfold clashB;rw [HNA.out,HNB.out];simp [hsb]);clear hsb;go_wp2;go_ret;exact ⟨ret_bool (by rw [HCB.out];try rfl),HB4.out⟩
    | false =>
     have HSB:=Lh_ hsb;clear hsb;go_wp2_with fail;refine (RBeneath_any u s w4 (by rw [HSS.out.2];exact HB.out)).mono ?_;rintro e w5 ⟨rfl,hw5⟩;subst hw5;have HCB:=Lh_ (show clashB a b=belowB u s by unfold clashB;rw [HNA.out,HNB.out];have hfst:=HFST.out;have hkn:=HKN.out;simp [HSU.out,HSB.out,hfst,hkn]);obtain ⟨z,hz⟩:∃ z,belowB u s=z:=⟨_,rfl⟩;rw [hz];have HZ:=Lh_ hz;clear hz;go_wp2;go_ret;exact ⟨ret_bool (by rw [HCB.out,HZ.out];try rfl),HB4.out⟩
 have ea:(a.kind == 4)=false:=beq_eq_false_iff_ne.2 ha4;have HF4:=Lh_ (show (decide (a.kind=4) && (decide (b.kind=4) && decide (a.nm=b.nm)))=false by simp [ha4]);clear ha4;go_wp2_with fail;refine (RNode_any a A1 c1 w2 (by have:=HA.out;omega) (HOK.out.next HB2.out)).mono ?_;rintro e w3 ⟨rfl,hb3⟩;clear p0 p1 p2 p3 p4 p5 p6 p7 p8 p9 q0 q1 q2 q3 q4 q5 q6 q7 q8 q9;obtain ⟨p0,p1,p2,p3,p4,p5,p6,p7,p8,p9⟩:=(HP.out.keep hb3 (by have:=HG.out;omega)).zero;obtain ⟨q0,q1,q2,q3,q4,q5,q6,q7,q8,q9⟩:=(HQ.out.keep hb3 (by have:=HG.out;omega)).zero;have HB3:=Lh_ hb3;have HB03:=tb_ HB2 hb3;clear hb3;go_wp2_with fail;refine (RNode_any b A2 c2 w3 (by have:=HB.out;omega) (HOK.out.next HB03.out)).mono ?_;rintro e w4 ⟨rfl,hb4⟩;clear p0 p1 p2 p3 p4 p5 p6 p7 p8 p9 q0 q1 q2 q3 q4 q5 q6 q7 q8 q9;have hb24:=HB3.out.trans (hb4.mono HB3.out.size);obtain ⟨p0,p1,p2,p3,p4,p5,p6,p7,p8,p9⟩:=(HP.out.keep hb24 (by have:=HG.out;omega)).zero;obtain ⟨q0,q1,q2,q3,q4,q5,q6,q7,q8,q9⟩:=(HQ.out.keep hb24 (by have:=HG.out;omega)).zero;have HB4:=tb_ HB03 hb4;clear hb4 hb24;unfold nodeV;cases hna:nodeD a with
 | none =>
  simp only [Option.isSome_none,Option.getD_none];have HCB:=Lh_ (show clashB a b=false by unfold clashB;rw [hna];simp only [HF4.out];rfl);clear hna;go_wp2;go_ret;exact ⟨ret_bool (by rw [HCB.out];try rfl),HB4.out⟩
 | some s =>
  cases hnb:nodeD b with
  | none =>
   simp only [Option.isSome_none,Option.isSome_some,Option.getD_none,Option.getD_some];have HCB:=Lh_ (show clashB a b=false by unfold clashB;rw [hna,hnb];simp only [HF4.out];rfl);clear hna hnb;go_wp2;go_ret;exact ⟨ret_bool (by rw [HCB.out];try rfl),HB4.out⟩
  | some u =>
   simp only [Option.isSome_some,Option.getD_some];have HSS:=Lh_ (And.intro (node_size hna) (node_size hnb));have HNA:=Lh_ hna;have HNB:=Lh_ hnb;clear hna hnb;have hfst:=HF4.out;have HFST:=Lh_ hfst;clear hfst;by_cases hkk:a.kind=b.kind
   ·
    have ek:(a.kind == b.kind)=true:=beq_iff_eq.2 hkk
    by_cases hnn:a.num=b.num
    ·
     have en:(a.num == b.num)=true:=beq_iff_eq.2 hnn
     have HCB:=Lh_ (show clashB a b=true by unfold clashB;rw [HNA.out,HNB.out];simp [hkk,hnn]);clear hkk hnn;go_wp2;go_ret;exact ⟨ret_bool (by rw [HCB.out];try rfl),HB4.out⟩
    have en:(a.num == b.num)=false:=beq_eq_false_iff_ne.2 hnn;have HKN:=Lh_ (show (decide (a.kind=b.kind) && decide (a.num=b.num))=false by simp [hnn]);clear hkk hnn;by_cases hsu:s=u
    ·
     have es:(s.toList == u.toList)=true:=by rw [ba_beq];exact decide_eq_true hsu
     have HCB:=Lh_ (show clashB a b=true by unfold clashB;rw [HNA.out,HNB.out];simp [hsu]);clear hsu;go_wp2;go_ret;exact ⟨ret_bool (by rw [HCB.out];try rfl),HB4.out⟩
    have es:(s.toList == u.toList)=false:=by rw [ba_beq];exact decide_eq_false hsu
    have HSU:=Lh_ hsu;clear hsu;go_wp2_with fail;refine (RBeneath_any s u w4 (by rw [HSS.out.1];exact HA.out)).mono ?_;rintro e w5 ⟨rfl,hw5⟩;subst hw5;cases hsb:belowB s u with
    | true =>
     have HCB:=Lh_ (show clashB a b=true by unfold clashB;rw [HNA.out,HNB.out];simp [hsb]);clear hsb;go_wp2;go_ret;exact ⟨ret_bool (by rw [HCB.out];try rfl),HB4.out⟩
    | false =>
     have HSB:=Lh_ hsb;clear hsb;go_wp2_with fail;refine (RBeneath_any u s w4 (by rw [HSS.out.2];exact HB.out)).mono ?_;rintro e w5 ⟨rfl,hw5⟩;subst hw5;have HCB:=Lh_ (show clashB a b=belowB u s by unfold clashB;rw [HNA.out,HNB.out];have hfst:=HFST.out;have hkn:=HKN.out;simp [HSU.out,HSB.out,hfst,hkn]);obtain ⟨z,hz⟩:∃ z,belowB u s=z:=⟨_,rfl⟩;rw [hz];have HZ:=Lh_ hz;clear hz;go_wp2;go_ret;exact ⟨ret_bool (by rw [HCB.out,HZ.out];try rfl),HB4.out⟩
   have ek:(a.kind == b.kind)=false:=beq_eq_false_iff_ne.2 hkk;have HKN:=Lh_ (show (decide (a.kind=b.kind) && decide (a.num=b.num))=false by simp [hkk]);clear hkk;by_cases hsu:s=u
   ·
    have es:(s.toList == u.toList)=true:=by rw [ba_beq];exact decide_eq_true hsu
    have HCB:=Lh_ (show clashB a b=true by unfold clashB;rw [HNA.out,HNB.out];simp [hsu]);clear hsu;go_wp2;go_ret;exact ⟨ret_bool (by rw [HCB.out];try rfl),HB4.out⟩
   have es:(s.toList == u.toList)=false:=by rw [ba_beq];exact decide_eq_false hsu
   have HSU:=Lh_ hsu;clear hsu;go_wp2_with fail;refine (RBeneath_any s u w4 (by rw [HSS.out.1];exact HA.out)).mono ?_;rintro e w5 ⟨rfl,hw5⟩;subst hw5;cases hsb:belowB s u with
   | true =>
    have HCB:=Lh_ (show clashB a b=true by unfold clashB;rw [HNA.out,HNB.out];simp [hsb]);clear hsb;go_wp2;go_ret;exact ⟨ret_bool (by rw [HCB.out];try rfl),HB4.out⟩
   | false =>
    have HSB:=Lh_ hsb;clear hsb;go_wp2_with fail;refine (RBeneath_any u s w4 (by rw [HSS.out.2];exact HB.out)).mono ?_;rintro e w5 ⟨rfl,hw5⟩;subst hw5;have HCB:=Lh_ (show clashB a b=belowB u s by unfold clashB;rw [HNA.out,HNB.out];have hfst:=HFST.out;have hkn:=HKN.out;simp [HSU.out,HSB.out,hfst,hkn]);obtain ⟨z,hz⟩:∃ z,belowB u s=z:=⟨_,rfl⟩;rw [hz];have HZ:=Lh_ hz;clear hz;go_wp2;go_ret;exact ⟨ret_bool (by rw [HCB.out,HZ.out];try rfl),HB4.out⟩
end Go.Proofs.YtjgllhlilbchpaaGreatDoor
namespace Go.Proofs.YtjgllhlilbchpaaGreatDoor
open Go.RowKit Go.Cold
set_option maxRecDepth 100000 in
theorem SameAttrs_same (A B:Option Addr) (c d:Nat) (xs:List Attr) (w:World) (b1 b2:Nat) (hx:Sl w b1 A c xs) (hy:Sl w b2 B d xs) :
  Calls Tryz.prog 19 #[.slice A xs.length c,.slice B xs.length d] w fun e w'=>e=.returned (.bool true)∧∃ n,w'=w.drewN n:=by
 have hc:=hx.1;have hc2:=hx.2.1;have hd:=hy.1;have hd2:=hy.2.1;unfold maxLen at hc2 hd2;have HX:=Lh_ hx;have HY:=Lh_ hy;clear hx hy;go_enter Tryz.func19,Tryz.ntmps19;go_wp2;go_loopw [5] (fun i wr=>∃ k n:Nat,k≤xs.length∧i=.int .i64 k∧wr=w.drewN n) (fun i _=>xs.length - (intOf i).toNat)
 case atStart=>exact ⟨0,0,Nat.zero_le _,rfl,rfl⟩
 case round =>
  obtain ⟨k,n,hk,rfl,rfl⟩:=hrel;by_cases hlt:k<xs.length
  ·
   obtain ⟨b3,o3,rfl,_,_,cx,cx2⟩:=HX.out.attr hlt
   obtain ⟨b4,o4,rfl,_,_,cy,cy2⟩:=HY.out.attr hlt;have i1:(k:Int)<(xs.length:Int):=by omega
   obtain ⟨x,hxx⟩:∃ x,xs[k]'hlt=x:=⟨_,rfl⟩;rw [hxx] at cx cx2 cy cy2;clear hxx;go_wp2;go_quiet (fail)
   go_wp2;go_roundw
   case rel=>exact ⟨k+1,_,by omega,by go_num,rfl⟩
   case measure=>simp [intOf];omega
  ·
   have i1:¬ (k:Int)<(xs.length:Int):=by omega
   go_wp2;go_ret;exact ⟨rfl,_,rfl⟩
end Go.Proofs.YtjgllhlilbchpaaGreatDoor
namespace Go.Proofs.YtjgllhlilbchpaaGreatDoor
open Go.RowKit Go.Cold
end Go.Proofs.YtjgllhlilbchpaaGreatDoor
namespace Go.Proofs.YtjgllhlilbchpaaGreatDoor
open Go.RowKit Go.Cold Go.Sort
end Go.Proofs.YtjgllhlilbchpaaGreatDoor
