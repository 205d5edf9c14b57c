/-
  The walk of layer 7's reference: the reader of contents.
-/
import Derived.Test.YtjgllhlilbchpaaGreatDoorQA
import Derived.Test.YtjgllhlilbchpaaGreatDoorQD
import Derived.Test.YtjgllhlilbchpaaGreatDoorQSN
import Derived.Test.YtjgllhlilbchpaaGreatDoorQSI
import Derived.Deep.RegionHeld3
import Derived.Deep.DeepCutAuto
import Derived.Test.YtjgllhlilbchpaaGreatDoorQTK
set_option linter.unusedSimpArgs false
set_option linter.unusedVariables false
namespace Go.Cold
open Go Go.RowKit Go.Proofs.YtjgllhlilbchpaaGreatDoor
theorem split_size (sep:ByteArray):∀ (k:Nat) (s x:ByteArray),x ∈ Lib.splitB sep 0 k s→x.size≤s.size
  | 0,s,x,h=>by simp [Lib.splitB] at h;subst h;exact Nat.le_refl _
  | k+1,s,x,h=>by
    unfold Lib.splitB at h;split at h
    · simp at h;subst h;exact Nat.le_refl _
    · rcases List.mem_cons.1 h with rfl | h
      · rw [ByteArray.size_extract];omega
      · have:=split_size sep k _ x h
        rw [ByteArray.size_extract] at this;omega
theorem parts_size {c:UInt8} {s x:ByteArray} (h:x ∈ partsB c s):x.size≤s.size:=split_size _ _ _ _ h
theorem parts_length (c:UInt8) (s:ByteArray):(partsB c s).length=Lib.countB s ⟨#[c]⟩+1:=Lib.splitB_all ⟨#[c]⟩ (by show 1≤1;omega) 0 _ s rfl
theorem numR_bound (s:ByteArray):0≤numRd s∧numRd s≤99:=by
  unfold numRd;split
  · split <;> omega
  · split <;> omega
  · omega
theorem headP_kind {P:List ByteArray} {c:Cont} (h:headP P=some c):∃ k i l s t e,c=.mk k i l s t e []:=by
  unfold headP at h;simp only at h;repeat' split at h
  all_goals first | (cases h;done) | (obtain rfl:=Option.some.inj h;exact ⟨_,_,_,_,_,_,rfl⟩)
theorem loop_len (f:ByteArray→Option (Cont × ByteArray)) (hf:∀ s c r,f s=some (c,r)→nodesC c+r.size≤s.size+1):∀ (n:Nat) (rest:ByteArray) (acc l:List Cont) (r:ByteArray),rest.size > 0→
    loopR f n rest acc=some (l,r)→nodesL l+r.size≤nodesL acc+rest.size∧0<r.size
  | 0,_,_,_,_,_,h=>by cases h
  | n+1,rest,acc,l,r,hpos,h=>by
    rw [loopR] at h;split at h
    · obtain ⟨rfl,rfl⟩:=Prod.mk.inj (Option.some.inj h);exact ⟨Nat.le_refl _,hpos⟩
    · split at h
      · cases h
      · rename_i x more hx
        split at h
        · cases h
        · have h1:=hf _ _ _ hx
          obtain ⟨h2,h3⟩:=loop_len f hf n more (acc ++ [x]) l r (by omega) h;rw [nodesL_app] at h2;rw [ByteArray.size_extract] at h1;exact ⟨by omega,h3⟩
theorem read_len:∀ (d:Nat) (s:ByteArray) (c:Cont) (r:ByteArray),readR d s=some (c,r)→nodesC c+r.size≤s.size+1:=by
  have hz:nodesC zeroC=1:=by unfold zeroC;rw [nodesC,nodesL]
  intro d;induction d with
  | zero =>
    intro s c r h;rw [readR] at h;split at h
    · obtain ⟨rfl,rfl⟩:=Prod.mk.inj (Option.some.inj h);rw [hz];omega
    · cases h
  | succ d ih =>
    intro s c r h;rw [readR] at h;split at h
    · obtain ⟨rfl,rfl⟩:=Prod.mk.inj (Option.some.inj h);rw [hz];omega
    · unfold readS at h
      have hr:(s.extract (untilN s brE) s.size).size≤s.size:=by rw [ByteArray.size_extract];omega
      simp only at h;split at h
      · cases h
      · rename_i c0 hc0
        obtain ⟨k,i,l,sl,t,e,rfl⟩:=headP_kind hc0;split at h
        · obtain ⟨rfl,rfl⟩:=Prod.mk.inj (Option.some.inj h);rw [nodesC,nodesL];omega
        · split at h
          · split at h
            · cases h
            · rename_i hhead _ l1 r1 hl
              obtain ⟨rfl,rfl⟩:=Prod.mk.inj (Option.some.inj h);have hpos:0<(s.extract (untilN s brE) s.size).size:=by
                rcases Nat.eq_zero_or_pos (s.extract (untilN s brE) s.size).size with h0 | h0
                · rw [← ba_size] at h0;rw [List.eq_nil_of_length_eq_zero h0] at hhead;cases hhead
                · exact h0
              obtain ⟨h1,h2⟩:=loop_len _ ih _ _ _ _ _ hpos hl;unfold putIn;rw [nodesC,ByteArray.size_extract];rw [nodesL] at h1;omega
          · cases h
theorem read_end {d:Nat} {s:ByteArray} (h:headE s.data.toList.head? = true):readR d s=some (zeroC,s):=by
  cases d <;> rw [readR,if_pos h]
theorem readS_none {f:ByteArray→Option (Cont × ByteArray)} {s:ByteArray} (h:headP (partsB 58 (s.extract 0 (untilN s brE)))=none):readS f s=none:=by
  unfold readS;simp only [h]
theorem readS_fs {f:ByteArray→Option (Cont × ByteArray)} {s:ByteArray} {c:Cont} (h:headP (partsB 58 (s.extract 0 (untilN s brE)))=some c) (hk:kindOf c=1):readS f s=some (c,s.extract (untilN s brE) s.size):=by
  unfold readS;simp only [h];rw [if_pos hk]
theorem readS_nobr {f:ByteArray→Option (Cont × ByteArray)} {s:ByteArray} {c:Cont} (h:headP (partsB 58 (s.extract 0 (untilN s brE)))=some c) (hk:kindOf c≠1) (hb:(s.extract (untilN s brE) s.size).data.toList.head?≠some 40):readS f s=none:=by
  unfold readS;simp only [h];rw [if_neg hk,if_neg hb]
theorem readS_loop {f:ByteArray→Option (Cont × ByteArray)} {s:ByteArray} {c:Cont} (h:headP (partsB 58 (s.extract 0 (untilN s brE)))=some c) (hk:kindOf c≠1) (hb:(s.extract (untilN s brE) s.size).data.toList.head? = some 40) :
    readS f s=(loopR f (s.extract (untilN s brE) s.size).size (s.extract (untilN s brE) s.size) []).map fun x=>(putIn c x.1,x.2.extract 1 x.2.size):=by
  unfold readS;simp only [h];rw [if_neg hk,if_pos hb];cases loopR f (s.extract (untilN s brE) s.size).size (s.extract (untilN s brE) s.size) [] <;> rfl
theorem head_none {s:ByteArray} {x:UInt8} (hx:s.data.toList[0]? = some x) (h1:x.toNat≠44) (h2:x.toNat≠41):headE s.data.toList.head? = false:=by
  rw [List.head?_eq_getElem?,hx];unfold headE;have a1:x≠44:=fun e=>h1 (by rw [e];rfl)
  have a2:x≠41:=fun e=>h2 (by rw [e];rfl)
  simp [a1,a2]
theorem head_some {s:ByteArray} {x:UInt8} (hx:s.data.toList[0]? = some x) (h:x.toNat=44∨x.toNat=41):headE s.data.toList.head? = true:=by
  rw [List.head?_eq_getElem?,hx];unfold headE;rcases h with h | h
  · have:x=44:=UInt8.toNat_inj.1 h
    subst this;rfl
  · have:x=41:=UInt8.toNat_inj.1 h
    subst this;rfl
theorem head_empty {s:ByteArray} (h:s.size=0):headE s.data.toList.head? = true:=by
  rw [← ba_size] at h;rw [List.eq_nil_of_length_eq_zero h];rfl
theorem head_is {s:ByteArray} {x:UInt8} (hx:s.data.toList[0]? = some x) {n:Nat} (hn:n<256):s.data.toList.head? = some (UInt8.ofNat n)↔x.toNat=n:=by
  rw [List.head?_eq_getElem?,hx];constructor
  · intro h;obtain rfl:=Option.some.inj h;simp;omega
  · intro h;congr 1;apply UInt8.toNat_inj.1;simp;omega
def StQ (w0:World) (gr gc:Nat) (w:World) (cs:List Value):Prop:=Below w0.heap.size w0 w∧BoxL w gc cs∧BoxL w gr zeroL∧(w0.heap.size≤gr∧gr<gc)
section
variable {w0 w w':World} {gr gc:Nat} {cs:List Value}
theorem StQ.below (h:StQ w0 gr gc w cs) (hb:Below w.heap.size w w'):StQ w0 gr gc w' cs:=by
  obtain ⟨h1,h2,h3,h4⟩:=h;exact ⟨h1.trans (hb.mono h1.size),h2.kept (grown_none hb) (fun e=>by cases e),h3.kept (grown_none hb) (fun e=>by cases e),h4⟩
theorem StQ.set_ (h:StQ w0 gr gc w cs) {j:Nat} (hj:j<cs.length) (v:Value):StQ w0 gr gc (w.setCell ⟨gc,j,none⟩ v) (cs.set j v):=by
  obtain ⟨h1,h2,h3,h4,h5⟩:=h;exact ⟨h1.setCell (by show w0.heap.size≤gc;omega) _,h2.set_ hj v,h3.far (by omega) v,h4,h5⟩
theorem StQ.row {row:Option Nat} (h:StQ w0 gr gc w cs) (hg:w.grownBy w' row) (hr:∀ q,row=some q→gc<q):StQ w0 gr gc w' cs:=by
  obtain ⟨h1,h2,h3,h4,h5⟩:=h;exact ⟨h1.grown hg h1.size (fun q hq=>by have:=hr q hq;omega),h2.kept hg (fun e=>by have:=hr gc e.symm;omega),h3.kept hg (fun e=>by have:=hr gr e.symm;omega),h4,h5⟩
end
theorem below7 {B gr:Nat} {a w:World} (h:Below B a w) (hg:B≤gr) (v0 v1 v2 v3 v4 v5 v6:Value):Below B a (((((((w.setCell ⟨gr,0,none⟩ v0).setCell ⟨gr,1,none⟩ v1).setCell ⟨gr,2,none⟩ v2).setCell ⟨gr,3,none⟩ v3).setCell ⟨gr,4,none⟩ v4).setCell ⟨gr,5,none⟩ v5).setCell ⟨gr,6,none⟩ v6) :=
  ((((((h.setCell (by exact hg) _).setCell (by exact hg) _).setCell (by exact hg) _).setCell (by exact hg) _).setCell (by exact hg) _).setCell (by exact hg) _).setCell (by exact hg) _
theorem below7d {B gr:Nat} {a w:World} (h:Below B a w) (hg:B≤gr) (v0 v1 v2 v3 v4 v5 v6:Value):Below B a ((((((((w.setCell ⟨gr,0,none⟩ v0).setCell ⟨gr,1,none⟩ v1).setCell ⟨gr,2,none⟩ v2).setCell ⟨gr,3,none⟩ v3).setCell ⟨gr,4,none⟩ v4).setCell ⟨gr,5,none⟩ v5).setCell ⟨gr,6,none⟩ v6)).drew:=below_drewN (below7 h hg v0 v1 v2 v3 v4 v5 v6) 1
theorem NewC.drew {w w':World} {c:Cont} {cs:List Value} (h:NewC w w' c cs):NewC w w'.drew c cs:=by
  unfold NewC at h;show CRdS w'.drew (fun b=>w.heap.size≤b∧b<w'.heap.size) c cs
  exact CRdS_mono (w:=w') (w':=w'.drew) (fun _ h=>h) (fun y o u hy hu=>((below_drewN_self w' w'.heap.size 1).cell (p:=⟨y,o,none⟩) (by exact hy.2)).trans hu) c cs h
end Go.Cold
namespace Go.Proofs.YtjgllhlilbchpaaGreatDoor
open Go.RowKit Go.Cold

def Ok8 (w:World):Prop:=∃ m,w.cell? ⟨0,0,none⟩=some (.int .i64 m)
theorem Ok8.below {w w':World} (h:Ok8 w) (hb:Below w.heap.size w w'):Ok8 w':=by
  obtain ⟨m,hm⟩:=h;exact ⟨m,(hb.cell (p:=⟨_,0,none⟩) (by exact block_lt_of_cell hm)).trans hm⟩
theorem RSplit_one (s:ByteArray) (c:UInt8) (w:World) (hs:s.size≤1000) (hok:Ok8 w):Calls Tryz.prog 122 #[.string s,.string ⟨#[c]⟩] w fun e w'=>e=.returned (.slice (some ⟨w.heap.size,0,none⟩) (partsB c s).length (partsB c s).length)∧w'=w.alloc (.cells ((partsB c s).map Value.string).toArray 9):=by
  obtain ⟨m,hm⟩:=hok;rw [parts_length];exact Tryz.strings_Split s ⟨#[c]⟩ m w (by omega) hm (by show 1≤1;omega)
def ReadPost (R:Option (Cont × ByteArray)) (w:World) (e:Ending) (w':World):Prop:=Below w.heap.size w w'∧
  ((∃ c cs r,R=some (c,r)∧e=.returned (.tuple #[.agg cs.toArray,.string r,.bool true])∧NewC w w' c cs)∨
   (R=none∧∃ k i l s t le A n cp,e=.returned (.tuple #[.agg #[.int .i64 k,.string i,.string l,.int .i64 s,.int .i64 t,.int .i64 le,.slice A n cp],.string ⟨#[]⟩,.bool false])))
def ReadCalls (d:Nat):Prop:=∀ (s:ByteArray) (w:World),s.size≤256→Ok8 w→Calls Tryz.prog 111 #[.string s,.int .i64 d] w (ReadPost (readR d s) w)
theorem zero_post {d:Nat} {s:ByteArray} (h:headE s.data.toList.head? = true) {w w5:World} (hb:Below w.heap.size w w5) :
    ReadPost (readR d s) w (.returned (.tuple #[.agg #[.int .i64 0,.string ByteArray.empty,.string ByteArray.empty,.int .i64 0,.int .i64 0,.int .i64 0,.slice none 0 0],.string s,.bool true])) (((((((w5.setCell ⟨w.heap.size,0,none⟩ (.int .i64 0)).setCell ⟨w.heap.size,1,none⟩ (.string ByteArray.empty)).setCell ⟨w.heap.size,2,none⟩ (.string ByteArray.empty)).setCell ⟨w.heap.size,3,none⟩ (.int .i64 0)).setCell ⟨w.heap.size,4,none⟩ (.int .i64 0)).setCell ⟨w.heap.size,5,none⟩ (.int .i64 0)).setCell ⟨w.heap.size,6,none⟩ (.slice none 0 0)):=by
  refine ⟨below7 hb (Nat.le_refl _) _ _ _ _ _ _ _,.inl ⟨zeroC,zeroL,s,read_end h,rfl,?_⟩⟩;unfold NewC zeroC zeroL;rw [CRdS];exact ⟨none,0,rfl,⟨by unfold okInt;omega,by unfold maxLen;decide,by unfold maxLen;decide,by unfold okInt;omega,by unfold okInt;omega,by unfold okInt;omega⟩,Nat.le_refl _,by unfold maxLen;omega,fun h=>by simp at h⟩
theorem fail_post {R:Option (Cont × ByteArray)} (h:R=none) {w w5:World} (hb:Below w.heap.size w w5) {gr:Nat} (hg:w.heap.size≤gr) (k:Int) (i l:ByteArray) (s t le:Int) (A:Option Addr) (n cp:Nat) :
    ReadPost R w (.returned (.tuple #[.agg #[.int .i64 k,.string i,.string l,.int .i64 s,.int .i64 t,.int .i64 le,.slice A n cp],.string ⟨#[]⟩,.bool false])) (((((((w5.setCell ⟨gr,0,none⟩ (.int .i64 k)).setCell ⟨gr,1,none⟩ (.string i)).setCell ⟨gr,2,none⟩ (.string l)).setCell ⟨gr,3,none⟩ (.int .i64 s)).setCell ⟨gr,4,none⟩ (.int .i64 t)).setCell ⟨gr,5,none⟩ (.int .i64 le)).setCell ⟨gr,6,none⟩ (.slice A n cp)) :=
  ⟨below7 hb hg _ _ _ _ _ _ _,.inr ⟨h,_,_,_,_,_,_,_,_,_,rfl⟩⟩
def RdRel (w0:World) (gr gc lo:Nat) (T:TypeId) (K:Int) (p1:ByteArray) (S Tt L:Int) (f:ByteArray→Option (Cont × ByteArray)) (spec:Option (List Cont × ByteArray)) (rest:ByteArray) (wr:World):Prop :=
  ∃ (v:Value) (acc:List Cont) (n:Nat),StQ w0 gr gc wr [.int .i64 K,.string p1,.string ByteArray.empty,.int .i64 S,.int .i64 Tt,.int .i64 L,v]∧OwnsC (fun x=>lo≤x) wr lo T v acc∧loopR f n rest acc=spec∧
    (rest.size≤n∧0<rest.size∧nodesL acc+rest.size≤257∧rest.size≤256∧lo≤wr.heap.size)
def strSize:Value→Nat
  | .string r=>r.size
  | _=>0

end Go.Proofs.YtjgllhlilbchpaaGreatDoor
namespace Go.Proofs.YtjgllhlilbchpaaGreatDoor
open Go.RowKit Go.Cold

set_option maxHeartbeats 32000000 in
set_option maxRecDepth 100000 in
theorem read_step (d0:Nat) (hd0:d0≤1000) (IH:0<d0→ReadCalls (d0 - 1)):ReadCalls d0:=by
 intro s w hs hok;obtain ⟨i0,hi0,hz0,hz1,hz2⟩:=info_parts info_cont;have HI0:=Lh_ hi0;clear hi0;have HZ0:=Lh_ hz0;clear hz0;have HZ1:=Lh_ hz1;clear hz1;have HZ2:=Lh_ hz2;clear hz2;have hzv:=(zero_of_info (P:=Tryz.prog) (t:=72) info_cont2).1;have HIH:=Lh_ IH;have HOK:=Lh_ hok;clear IH hok;go_enter Tryz.func111,Tryz.ntmps111;go_upto_region 1 with fail
 obtain ⟨wA,hwA⟩:∃ wA,w.alloc (.cells #[.int .i64 0,.string ByteArray.empty,.string ByteArray.empty,.int .i64 0,.int .i64 0,.int .i64 0,.slice none 0 0] 72)=wA:=⟨_,rfl⟩;obtain ⟨hbA,hgA,-⟩:=box7 hwA;have hBA:BoxL wA w.heap.size zeroL:=box_mk hwA;rw [hwA];have HBA:=Lh_ hBA;have HBELA:=Lh_ hbA;have HGA:=Lh_ hgA;clear hwA hbA hgA hBA;by_cases hs0:s.size=0
 ·
  have HEND:=Lh_ (head_empty hs0)
  have he:s.toList=[]:=by rw [of_list (List.eq_nil_of_length_eq_zero (show s.data.toList.length=0 by rw [ba_size];exact hs0))];decide +kernel
  obtain ⟨y0,y1,y2,y3,y4,y5,y6⟩:=s7_ HBA.out.1;have yf:=HBA.out.2.1;clear hs0;go_wp2;exact bodyPost_ret (v:=.tuple #[.agg #[.int .i64 0,.string ByteArray.empty,.string ByteArray.empty,.int .i64 0,.int .i64 0,.int .i64 0,.slice none 0 0],.string s,.bool true]) (by simp [results,Tryz.results111,go_sem,y0,y1,y2,y3,y4,y5,y6]) rfl (zero_post HEND.out HBELA.out)
 have hpos:0<s.size:=by omega
 have he:¬ s.toList=[]:=fun h=>hs0 (by rw [(empty_iff s).1 h];rfl)
 have he2:s.toList.isEmpty=false:=by simpa using he
 obtain ⟨x,hx⟩:∃ x:UInt8,s[0]'hpos=x:=⟨_,rfl⟩;have hxl:s.data.toList[0]? = some x:=by rw [← hx];exact Lib.data_getElem? s 0 hpos
 have HX:=Lh_ hxl;clear hxl;by_cases h44:x.toNat=44
 ·
  have HEND:=Lh_ (head_some HX.out (.inl h44))
  have e44:((x.toNat:Int) == 44)=true:=beq_iff_eq.2 (by omega);obtain ⟨y0,y1,y2,y3,y4,y5,y6⟩:=s7_ HBA.out.1;have yf:=HBA.out.2.1;clear h44 hs0;go_wp2;exact bodyPost_ret (v:=.tuple #[.agg #[.int .i64 0,.string ByteArray.empty,.string ByteArray.empty,.int .i64 0,.int .i64 0,.int .i64 0,.slice none 0 0],.string s,.bool true]) (by simp [results,Tryz.results111,go_sem,y0,y1,y2,y3,y4,y5,y6]) rfl (zero_post HEND.out HBELA.out)
 by_cases h41:x.toNat=41
 ·
  have HEND:=Lh_ (head_some HX.out (.inr h41))
  have e44:((x.toNat:Int) == 44)=false:=beq_eq_false_iff_ne.2 (by omega);have e41:((x.toNat:Int) == 41)=true:=beq_iff_eq.2 (by omega);obtain ⟨y0,y1,y2,y3,y4,y5,y6⟩:=s7_ HBA.out.1;have yf:=HBA.out.2.1;clear h41 h44 hs0;go_wp2;exact bodyPost_ret (v:=.tuple #[.agg #[.int .i64 0,.string ByteArray.empty,.string ByteArray.empty,.int .i64 0,.int .i64 0,.int .i64 0,.slice none 0 0],.string s,.bool true]) (by simp [results,Tryz.results111,go_sem,y0,y1,y2,y3,y4,y5,y6]) rfl (zero_post HEND.out HBELA.out)
 have HNO:=Lh_ (head_none HX.out h44 h41);have e44:((x.toNat:Int) == 44)=false:=beq_eq_false_iff_ne.2 (by omega);have e41:((x.toNat:Int) == 41)=false:=beq_eq_false_iff_ne.2 (by omega);clear h44 h41 hs0;rcases Nat.eq_zero_or_pos d0 with rfl | hdp
 ·
  have HR:=Lh_ (show readR 0 s=none by rw [readR,if_neg (by rw [HNO.out];simp)])
  obtain ⟨y0,y1,y2,y3,y4,y5,y6⟩:=s7_ HBA.out.1;have yf:=HBA.out.2.1;go_wp2;exact bodyPost_ret (v:=.tuple #[.agg #[.int .i64 0,.string ByteArray.empty,.string ByteArray.empty,.int .i64 0,.int .i64 0,.int .i64 0,.slice none 0 0],.string ⟨#[]⟩,.bool false]) (by simp [results,Tryz.results111,go_sem,y0,y1,y2,y3,y4,y5,y6]) rfl (fail_post HR.out HBELA.out (Nat.le_refl _) _ _ _ _ _ _ _ _ _)
 obtain ⟨d,rfl⟩:∃ g,d0=g+1:=⟨d0 - 1,by omega⟩;have hih:ReadCalls d:=HIH.out (by omega);have hrs:readR (d+1) s=readS (readR d) s:=by rw [readR,if_neg (by rw [HNO.out];simp)]
 have HRS:=Lh_ hrs;have HIH2:=Lh_ hih;have HDD:=Lh_ hd0;have e0:¬ ((d:Int)+1≤0):=by omega
 have e0':¬ (((d+1:Nat):Int)≤0):=by omega
 clear hih hrs HIH hd0 hdp;go_wp2_with fail;clear e44 e41 he he2 hx;refine Calls.mono (RUntil_any s wA (by unfold maxLen;omega):Calls Tryz.prog 155 #[.string s,.string ⟨#[40,44,41]⟩] wA _) ?_;rintro e w1 ⟨rfl,hb1⟩;obtain ⟨H,hH⟩:∃ H,s.extract 0 (untilN s brE)=H:=⟨_,rfl⟩;obtain ⟨R0,hR0⟩:∃ R,s.extract (untilN s brE) s.size=R:=⟨_,rfl⟩;have hHs:H.size≤256:=by rw [← hH,ByteArray.size_extract];omega
 have hRs:R0.size≤s.size:=by rw [← hR0,ByteArray.size_extract];omega
 rw [hH,hR0];have HH:=Lh_ hH;have HR0:=Lh_ hR0;have HHS:=Lh_ hHs;have HRSZ:=Lh_ hRs;have HB1:=tb_ HBELA hb1;have HBX1:=kb_ HBA hb1;have HG1:=Lh_ (show w.heap.size<w1.heap.size by have:=hb1.size;have:=HGA.out;omega);clear hH hR0 hHs hRs hb1 HBA HBELA HGA;go_wp2_with fail;refine (RSplit_one H 58 w1 (by have:=HHS.out;omega) (HOK.out.below HB1.out)).mono ?_;rintro e w2 ⟨rfl,hw2⟩;obtain ⟨PP,hPP⟩:∃ P,partsB 58 H=P:=⟨_,rfl⟩;have hsz:∀ x ∈ PP,x.size≤256:=fun x hx=>by rw [← hPP] at hx;have:=parts_size hx;have:=HHS.out;omega
 rw [hPP] at hw2 ⊢;have hbx2:BoxL w2 w1.heap.size (PP.map Value.string):=by have h:=box_mk hw2.symm;simpa using h
 have hb2:Below w1.heap.size w1 w2:=by rw [hw2];exact (Below.refl _ _).alloc (Nat.le_refl _) _
 have hg2:w2.heap.size=w1.heap.size+1:=by rw [hw2];simp
 have HPP:=Lh_ hPP;have HSZ:=Lh_ hsz;have HPB2:=Lh_ hbx2;have HG2:=Lh_ hg2;have HB2:=tb_ HB1 hb2;have HBX2:=kb_ HBX1 hb2;clear hPP hsz hbx2 hb2 hg2 hw2 HB1 HBX1;go_upto_region 8 with fail
 obtain ⟨w3,hw3⟩:∃ w3,w2.alloc (.cells #[.int .i64 0,.string ByteArray.empty,.string ByteArray.empty,.int .i64 0,.int .i64 0,.int .i64 0,.slice none 0 0] 72)=w3:=⟨_,rfl⟩;obtain ⟨hb3,hg3,-⟩:=box7 hw3;have hST:StQ w w.heap.size w2.heap.size w3 [.int .i64 0,.string ByteArray.empty,.string ByteArray.empty,.int .i64 0,.int .i64 0,.int .i64 0,.slice none 0 0]:=⟨HB2.out.trans (hb3.mono HB2.out.size),box_mk hw3,HBX2.out.kept (grown_none hb3) (fun e=>by cases e),Nat.le_refl _,by have:=HG1.out;have:=HG2.out;omega⟩;have HST:=Lh_ hST;have HPB:=kb_ HPB2 hb3;have HLT:=Lh_ (show w1.heap.size<w2.heap.size∧w2.heap.size<w3.heap.size by have:=HG2.out;omega);rw [hw3];clear hw3 hb3 hg3 hST HB2 HBX2 HPB2 HG2;have hlen1:PP.length≤2 ^ 40:=by rw [← HPP.out,parts_length];have h:=Lib.countB_le ⟨#[58]⟩ (by show 1≤1;omega) _ H (Nat.le_refl _);have:=HHS.out;omega
 by_cases hl2:PP.length<2
 ·
  have i1:(PP.length:Int)<2:=by omega
  obtain ⟨x0,x1,x2,x3,x4,x5,x6⟩:=s7_ HST.out.2.1.1;have xf:=HST.out.2.1.2.1;obtain ⟨y0,y1,y2,y3,y4,y5,y6⟩:=s7_ HST.out.2.2.1.1;have yf:=HST.out.2.2.1.2.1;have HNONE:=Lh_ (show readR (d+1) s=none by rw [HRS.out];exact readS_none (by rw [HH.out,HPP.out];exact headP_short hl2));go_wp2;exact bodyPost_ret (v:=.tuple #[.agg #[.int .i64 0,.string ByteArray.empty,.string ByteArray.empty,.int .i64 0,.int .i64 0,.int .i64 0,.slice none 0 0],.string ⟨#[]⟩,.bool false]) (by simp [results,Tryz.results111,go_sem,y0,y1,y2,y3,y4,y5,y6]) rfl (fail_post HNONE.out HST.out.1 (Nat.le_refl _) _ _ _ _ _ _ _ _ _)
 have i1:¬ (PP.length:Int)<2:=by omega
 obtain ⟨p0,p1,Q,rfl⟩:∃ p0 p1 Q,PP=p0 :: p1 :: Q:=by
  match PP,hl2 with
  | [],h=>exact absurd (by decide) h
  | [_],h=>exact absurd (by simp) h
  | p0 :: p1 :: Q,_=>exact ⟨p0,p1,Q,rfl⟩
 have hp1s:p1.size≤256:=HSZ.out p1 (by simp);have HP1S:=Lh_ hp1s;clear hp1s hl2;have hP0:=HPB.out.1 0 _ rfl;have hP1:=HPB.out.1 1 _ rfl;obtain ⟨N,hN⟩:∃ N,(p0 :: p1 :: Q).length=N:=⟨_,rfl⟩;rw [hN] at i1 hlen1 ⊢;have hN2:2≤N:=by rw [← hN];simp
 obtain ⟨x0,x1,x2,x3,x4,x5,x6⟩:=s7_ HST.out.2.1.1;have xf:=HST.out.2.1.2.1;go_upto_region 12 with fail
 clear x0 x1 x2 x3 x4 x5 x6 xf;clear hP0 hP1;have hst4:=HST.out.set_ (j:=1) (by simp) (.string p1);simp only [List.set_cons_zero,List.set_cons_succ] at hst4;have HPB4:=Lh_ (HPB.out.far (g':=w2.heap.size) (j:=1) (by have:=HLT.out;omega) (.string p1));have hsz4:(w3.setCell ⟨w2.heap.size,1,none⟩ (.string p1)).heap.size=w3.heap.size:=by simp
 obtain ⟨w4,hw4⟩:∃ w4,w3.setCell ⟨w2.heap.size,1,none⟩ (.string p1)=w4:=⟨_,rfl⟩;rw [hw4] at hst4 HPB4 hsz4 ⊢;have HST4:=Lh_ hst4;have HLT4:=Lh_ (show w1.heap.size<w2.heap.size∧w2.heap.size<w4.heap.size by have:=HLT.out;omega);clear hst4 hw4 HST HPB hsz4 HLT;have HN:=Lh_ hN;clear hN;rcases (show N=3∨N=2∨(N≠3∧N≠2) by omega) with rfl | rfl | ⟨hN3,hN2'⟩
 ·
  obtain ⟨p2,rfl⟩:∃ p2,Q=[p2]:=by
   have h:=HN.out;match Q,h with
   | [p2],_=>exact ⟨p2,rfl⟩
   | [],h=>simp at h
   | _ :: _ :: _,h=>simp at h
  have hp2s:p2.size≤256:=HSZ.out p2 (by simp);have HP2S:=Lh_ hp2s;clear hp2s;have hP0:=HPB4.out.1 0 _ rfl;have hP2:=HPB4.out.1 2 _ rfl;go_wp2_with fail;refine (RSplit_one p2 47 w4 (by have:=HP2S.out;omega) (HOK.out.below HST4.out.1)).mono ?_;rintro e w5 ⟨rfl,hw5⟩;clear hP0 hP2;obtain ⟨SL,hSL⟩:∃ P,partsB 47 p2=P:=⟨_,rfl⟩;have hsz:∀ x ∈ SL,x.size≤256:=fun x hx=>by rw [← hSL] at hx;have:=parts_size hx;have:=HP2S.out;omega
  rw [hSL] at hw5 ⊢;have hbx5:BoxL w5 w4.heap.size (SL.map Value.string):=by have h:=box_mk hw5.symm;simpa using h
  have hb5:Below w4.heap.size w4 w5:=by rw [hw5];exact (Below.refl _ _).alloc (Nat.le_refl _) _
  have hg5:w5.heap.size=w4.heap.size+1:=by rw [hw5];simp
  have hlen2:SL.length≤2 ^ 40:=by rw [← hSL,parts_length];have h:=Lib.countB_le ⟨#[47]⟩ (by show 1≤1;omega) _ p2 (Nat.le_refl _);have:=HP2S.out;omega
  have HSL:=Lh_ hSL;have HSSZ:=Lh_ hsz;have HSB:=Lh_ hbx5;have HST5:=Lh_ (HST4.out.below hb5);have HPB5:=kb_ HPB4 hb5;clear hSL hsz hbx5 hb5 hg5 hw5 HST4 HPB4;obtain ⟨M,hM⟩:∃ M,SL.length=M:=⟨_,rfl⟩;rw [hM] at hlen2 ⊢;have HM:=Lh_ hM;clear hM;have hP0:=HPB5.out.1 0 _ rfl;have hP2:=HPB5.out.1 2 _ rfl;by_cases hqfs:p0=fsN
  ·
   skip
   have HQfs:=Lh_ hqfs;clear hqfs;have efs:(p0.toList == [102,115])=true:=by rw [HQfs.out];decide +kernel
   have eraid:(p0.toList == [114,97,105,100])=false:=by rw [HQfs.out];decide +kernel
   have ecrypt:(p0.toList == [99,114,121,112,116])=false:=by rw [HQfs.out];decide +kernel
   have epv:(p0.toList == [112,118])=false:=by rw [HQfs.out];decide +kernel
   have etable:(p0.toList == [116,97,98,108,101])=false:=by rw [HQfs.out];decide +kernel
   have HHEAD:=Lh_ (show readR (d+1) s=some (.mk 1 p1 p2 0 0 0 [],R0) by rw [HRS.out,← HR0.out];exact readS_fs (by rw [HH.out,HPP.out];exact headP_fs HQfs.out) rfl);go_wp2_with fail;refine wp_region_held_drew (S:=fun w'=>BoxL w' w1.heap.size ([p0,p1,p2].map Value.string)) (by kernel_rfl) HPB5.out.drew (fun hS0=>?_);refine tk1 0 65 (.slice (some ⟨w1.heap.size,0,none⟩) 3 3) rfl (fun w' hS=>by go_simp) (by assumption) ?_;try simp only [Act.put,sA_,sB_,sC_]
   refine tk1 1 66 (.pointer (some ⟨w1.heap.size,2,none⟩)) rfl (fun w' hS=>by go_simp) (by assumption) ?_;try simp only [Act.put,sA_,sB_,sC_]
   refine tk1 2 67 (.string p2) rfl (fun w' hS=>by (have u2:=hS.1 2 _ rfl;go_simp)) (by assumption) ?_;try simp only [Act.put,sA_,sB_,sC_]
   refine tk1 3 68 (.pointer (some ⟨w2.heap.size,0,none⟩)) rfl (fun w' hS=>by go_simp) (by assumption) ?_;try simp only [Act.put,sA_,sB_,sC_]
   refine rd1 4 (o:=⟨none,.store _ _ _,_,_,_,_⟩) rfl (fun K hK=>?_);obtain ⟨x0,x1,x2,x3,x4,x5,x6⟩:=s7_ HST5.out.2.1.1;have xf:=HST5.out.2.1.2.1;go_simp;have HST6:=Lh_ (HST5.out.set_ (j:=0) (by simp) (.int .i64 1));simp only [List.set_cons_zero,List.set_cons_succ] at HST6;have HPB6:=Lh_ (HPB5.out.far (g':=w2.heap.size) (j:=0) (show w2.heap.size≠w1.heap.size by have:=HLT4.out;omega) (.int .i64 1));refine hK.out _ _ HPB6.out.drew (fun hS=>?_);clear hK K;clear x0 x1 x2 x3 x4 x5 x6 xf;try simp only [Act.put,sA_,sB_,sC_]
   refine tk1 5 69 (.pointer (some ⟨w2.heap.size,2,none⟩)) rfl (fun w' hS=>by go_simp) (by assumption) ?_;try simp only [Act.put,sA_,sB_,sC_]
   refine rd1 6 (o:=⟨none,.store _ _ _,_,_,_,_⟩) rfl (fun K hK=>?_);obtain ⟨x0,x1,x2,x3,x4,x5,x6⟩:=s7_ HST6.out.2.1.1;have xf:=HST6.out.2.1.2.1;go_simp;have HST7:=Lh_ (HST6.out.set_ (j:=2) (by simp) (.string p2));simp only [List.set_cons_zero,List.set_cons_succ] at HST7;have HPB7:=Lh_ (HPB6.out.far (g':=w2.heap.size) (j:=2) (show w2.heap.size≠w1.heap.size by have:=HLT4.out;omega) (.string p2));refine hK.out _ _ HPB7.out.drew (fun hS=>?_);clear hK K;clear x0 x1 x2 x3 x4 x5 x6 xf;try simp only [Act.put,sA_,sB_,sC_]
   refine wpAnyH_done (by kernel_rfl) ?_ _;clear hP0 hP2;have hst:=HST7.out.below (w':=((w5.setCell ⟨w2.heap.size,0,none⟩ (.int .i64 1)).setCell ⟨w2.heap.size,2,none⟩ (.string p2)).drew) (below_drewN_self _ _ 1);obtain ⟨wv,hwv⟩:∃ wv,((w5.setCell ⟨w2.heap.size,0,none⟩ (.int .i64 1)).setCell ⟨w2.heap.size,2,none⟩ (.string p2)).drew=wv:=⟨_,rfl⟩;rw [hwv] at hst ⊢;have HST8:=Lh_ hst;clear hst hwv;obtain ⟨x0,x1,x2,x3,x4,x5,x6⟩:=s7_ HST8.out.2.1.1;have xf:=HST8.out.2.1.2.1;obtain ⟨y0,y1,y2,y3,y4,y5,y6⟩:=s7_ HST8.out.2.2.1.1;have yf:=HST8.out.2.2.1.2.1;go_wp2;refine bodyPost_ret (v:=.tuple #[.agg #[.int .i64 1,.string p1,.string p2,.int .i64 0,.int .i64 0,.int .i64 0,.slice none 0 0],.string R0,.bool true]) (by simp [results,Tryz.results111,go_sem,y0,y1,y2,y3,y4,y5,y6]) rfl ⟨below7 HST8.out.1 (Nat.le_refl _) _ _ _ _ _ _ _,.inl ⟨_,contCells 1 p1 p2 0 0 0 none 0 0,_,HHEAD.out,rfl,?_⟩⟩;unfold NewC;rw [CRdS,fin_size];exact ⟨none,0,rfl,⟨by unfold okInt;omega,by unfold maxLen;have:=HP1S.out;omega,by unfold maxLen;have:=HP2S.out;omega,by unfold okInt;omega,by unfold okInt;omega,by unfold okInt;omega⟩,Nat.le_refl _,by unfold maxLen;omega,fun h=>by simp at h⟩
  have HNfs:=Lh_ hqfs;clear hqfs;by_cases hqraid:p0=raidN
  ·
   skip
   have HQraid:=Lh_ hqraid;clear hqraid;have efs:(p0.toList == [102,115])=false:=by rw [HQraid.out];decide +kernel
   have eraid:(p0.toList == [114,97,105,100])=true:=by rw [HQraid.out];decide +kernel
   have ecrypt:(p0.toList == [99,114,121,112,116])=false:=by rw [HQraid.out];decide +kernel
   have epv:(p0.toList == [112,118])=false:=by rw [HQraid.out];decide +kernel
   have etable:(p0.toList == [116,97,98,108,101])=false:=by rw [HQraid.out];decide +kernel
   by_cases hM3:M=3
   ·
    subst hM3
    obtain ⟨q0,q1,q2,rfl⟩:∃ q0 q1 q2,SL=[q0,q1,q2]:=by
     have h:=HM.out;match SL,h with
     | [q0,q1,q2],_=>exact ⟨q0,q1,q2,rfl⟩
     | [],h=>simp at h
     | [_],h=>simp at h
     | [_,_],h=>simp at h
     | _ :: _ :: _ :: _ :: _ ,h=>simp at h
    have hqs0:q0.size≤maxLen:=by have:=HSSZ.out q0 (by simp);unfold maxLen;omega
    have HQS0:=Lh_ hqs0;clear hqs0;have hqs1:q1.size≤maxLen:=by have:=HSSZ.out q1 (by simp);unfold maxLen;omega
    have HQS1:=Lh_ hqs1;clear hqs1;have hqs2:q2.size≤maxLen:=by have:=HSSZ.out q2 (by simp);unfold maxLen;omega
    have HQS2:=Lh_ hqs2;clear hqs2;go_wp2_with fail;have HLT5:=Lh_ (show w2.heap.size≠w4.heap.size by have:=HLT4.out;omega);refine wp_region_held_drew (S:=fun w'=>BoxL w' w4.heap.size ([q0,q1,q2].map Value.string)) (by kernel_rfl) HSB.out.drew (fun hS0=>?_);refine tk1 0 82 (.slice (some ⟨w4.heap.size,0,none⟩) 3 3) rfl (fun w' hS=>by go_simp) (by assumption) ?_;try simp only [Act.put,sA_,sB_,sC_]
    refine tk1 1 83 (.pointer (some ⟨w4.heap.size,0,none⟩)) rfl (fun w' hS=>by go_simp) (by assumption) ?_;try simp only [Act.put,sA_,sB_,sC_]
    refine tk1 2 84 (.string q0) rfl (fun w' hS=>by (have u:=hS.1 0 _ rfl;go_simp)) (by assumption) ?_;try simp only [Act.put,sA_,sB_,sC_]
    refine tk1 4 86 (.slice (some ⟨w4.heap.size,0,none⟩) 3 3) rfl (fun w' hS=>by go_simp) (by assumption) ?_;try simp only [Act.put,sA_,sB_,sC_]
    refine tk1 5 87 (.pointer (some ⟨w4.heap.size,1,none⟩)) rfl (fun w' hS=>by go_simp) (by assumption) ?_;try simp only [Act.put,sA_,sB_,sC_]
    refine tk1 6 88 (.string q1) rfl (fun w' hS=>by (have u:=hS.1 1 _ rfl;go_simp)) (by assumption) ?_;try simp only [Act.put,sA_,sB_,sC_]
    refine tk1 8 90 (.slice (some ⟨w4.heap.size,0,none⟩) 3 3) rfl (fun w' hS=>by go_simp) (by assumption) ?_;try simp only [Act.put,sA_,sB_,sC_]
    refine tk1 9 91 (.pointer (some ⟨w4.heap.size,2,none⟩)) rfl (fun w' hS=>by go_simp) (by assumption) ?_;try simp only [Act.put,sA_,sB_,sC_]
    refine tk1 10 92 (.string q2) rfl (fun w' hS=>by (have u:=hS.1 2 _ rfl;go_simp)) (by assumption) ?_;try simp only [Act.put,sA_,sB_,sC_]
    refine tk1 12 94 (.pointer (some ⟨w2.heap.size,0,none⟩)) rfl (fun w' hS=>by go_simp) (by assumption) ?_;try simp only [Act.put,sA_,sB_,sC_]
    refine rd1 3 (o:=⟨some 85,.call ⟨_,_,_⟩,_,_,_,_⟩) rfl (fun K hK=>?_);go_simp;go_at_call 156;refine (c7RNumber_any q0 _ HQS0.out).mono ?_;rintro e' w' ⟨rfl,rfl⟩;refine hK.out _ _ (by assumption) (fun _=>?_);clear hK K;try simp only [Act.put,sA_,sB_,sC_]
    refine rd1 7 (o:=⟨some 89,.call ⟨_,_,_⟩,_,_,_,_⟩) rfl (fun K hK=>?_);go_simp;go_at_call 156;refine (c7RNumber_any q1 _ HQS1.out).mono ?_;rintro e' w' ⟨rfl,rfl⟩;refine hK.out _ _ (by assumption) (fun _=>?_);clear hK K;try simp only [Act.put,sA_,sB_,sC_]
    refine rd1 11 (o:=⟨some 93,.call ⟨_,_,_⟩,_,_,_,_⟩) rfl (fun K hK=>?_);go_simp;go_at_call 156;refine (c7RNumber_any q2 _ HQS2.out).mono ?_;rintro e' w' ⟨rfl,rfl⟩;refine hK.out _ _ (by assumption) (fun _=>?_);clear hK K;try simp only [Act.put,sA_,sB_,sC_]
    refine rd1 13 (o:=⟨none,.store _ _ _,_,_,_,_⟩) rfl (fun K hK=>?_);obtain ⟨x0,x1,x2,x3,x4,x5,x6⟩:=s7_ HST5.out.2.1.1;have xf:=HST5.out.2.1.2.1;go_simp;have HST6:=Lh_ (HST5.out.set_ (j:=0) (by simp) (.int .i64 2));simp only [List.set_cons_zero,List.set_cons_succ] at HST6;have HSB6:=Lh_ (HSB.out.far (g':=w2.heap.size) (j:=0) HLT5.out (.int .i64 2));refine hK.out _ _ HSB6.out.drew (fun hS=>?_);clear hK K;clear x0 x1 x2 x3 x4 x5 x6 xf;try simp only [Act.put,sA_,sB_,sC_]
    refine tk1 14 95 (.pointer (some ⟨w2.heap.size,3,none⟩)) rfl (fun w' hS=>by go_simp) (by assumption) ?_;try simp only [Act.put,sA_,sB_,sC_]
    refine rd1 15 (o:=⟨none,.store _ _ _,_,_,_,_⟩) rfl (fun K hK=>?_);obtain ⟨x0,x1,x2,x3,x4,x5,x6⟩:=s7_ HST6.out.2.1.1;have xf:=HST6.out.2.1.2.1;go_simp;have HST7:=Lh_ (HST6.out.set_ (j:=3) (by simp) (.int .i64 (numRd q0)));simp only [List.set_cons_zero,List.set_cons_succ] at HST7;have HSB7:=Lh_ (HSB6.out.far (g':=w2.heap.size) (j:=3) HLT5.out (.int .i64 (numRd q0)));refine hK.out _ _ HSB7.out.drew (fun hS=>?_);clear hK K;clear x0 x1 x2 x3 x4 x5 x6 xf;try simp only [Act.put,sA_,sB_,sC_]
    refine tk1 16 96 (.pointer (some ⟨w2.heap.size,4,none⟩)) rfl (fun w' hS=>by go_simp) (by assumption) ?_;try simp only [Act.put,sA_,sB_,sC_]
    refine rd1 17 (o:=⟨none,.store _ _ _,_,_,_,_⟩) rfl (fun K hK=>?_);obtain ⟨x0,x1,x2,x3,x4,x5,x6⟩:=s7_ HST7.out.2.1.1;have xf:=HST7.out.2.1.2.1;go_simp;have HST8:=Lh_ (HST7.out.set_ (j:=4) (by simp) (.int .i64 (numRd q1)));simp only [List.set_cons_zero,List.set_cons_succ] at HST8;have HSB8:=Lh_ (HSB7.out.far (g':=w2.heap.size) (j:=4) HLT5.out (.int .i64 (numRd q1)));refine hK.out _ _ HSB8.out.drew (fun hS=>?_);clear hK K;clear x0 x1 x2 x3 x4 x5 x6 xf;try simp only [Act.put,sA_,sB_,sC_]
    refine tk1 18 97 (.pointer (some ⟨w2.heap.size,5,none⟩)) rfl (fun w' hS=>by go_simp) (by assumption) ?_;try simp only [Act.put,sA_,sB_,sC_]
    refine rd1 19 (o:=⟨none,.store _ _ _,_,_,_,_⟩) rfl (fun K hK=>?_);obtain ⟨x0,x1,x2,x3,x4,x5,x6⟩:=s7_ HST8.out.2.1.1;have xf:=HST8.out.2.1.2.1;go_simp;have HST9:=Lh_ (HST8.out.set_ (j:=5) (by simp) (.int .i64 (numRd q2)));simp only [List.set_cons_zero,List.set_cons_succ] at HST9;have HSB9:=Lh_ (HSB8.out.far (g':=w2.heap.size) (j:=5) HLT5.out (.int .i64 (numRd q2)));refine hK.out _ _ HSB9.out.drew (fun hS=>?_);clear hK K;clear x0 x1 x2 x3 x4 x5 x6 xf;try simp only [Act.put,sA_,sB_,sC_]
    refine wpAnyH_done (by kernel_rfl) ?_ _;clear hP0 hP2;have BS:=Lh_ (show okInt (numRd q0) by have h:=numR_bound q0;unfold okInt;omega);have BT:=Lh_ (show okInt (numRd q1) by have h:=numR_bound q1;unfold okInt;omega);have BL:=Lh_ (show okInt (numRd q2) by have h:=numR_bound q2;unfold okInt;omega);have hhd:=headP_raid (p1:=p1) HQraid.out HSL.out;have HHD:=Lh_ hhd;clear hhd;clear efs eraid ecrypt epv etable;obtain ⟨nS,hnS⟩:∃ n,numRd q0=n:=⟨_,rfl⟩;obtain ⟨nT,hnT⟩:∃ n,numRd q1=n:=⟨_,rfl⟩;obtain ⟨nL,hnL⟩:∃ n,numRd q2=n:=⟨_,rfl⟩;simp only [hnS,hnT,hnL] at HHD HST9 BS BT BL ⊢;clear hnS hnT hnL;have hst:=HST9.out.below (w':=((((w5.setCell ⟨w2.heap.size,0,none⟩ (.int .i64 2)).setCell ⟨w2.heap.size,3,none⟩ (.int .i64 nS)).setCell ⟨w2.heap.size,4,none⟩ (.int .i64 nT)).setCell ⟨w2.heap.size,5,none⟩ (.int .i64 nL)).drew) (below_drewN_self _ _ 1);have HSTW:=Lh_ hst;clear hst;have HHEAD:=Lh_ (show headP (partsB 58 (s.extract 0 (untilN s brE)))=some (.mk 2 p1 ⟨#[]⟩ nS nT nL []) by rw [HH.out,HPP.out];exact HHD.out);obtain ⟨ws,hws⟩:∃ ws,((((w5.setCell ⟨w2.heap.size,0,none⟩ (.int .i64 2)).setCell ⟨w2.heap.size,3,none⟩ (.int .i64 nS)).setCell ⟨w2.heap.size,4,none⟩ (.int .i64 nT)).setCell ⟨w2.heap.size,5,none⟩ (.int .i64 nL)).drew=ws:=⟨_,rfl⟩;rw [hws] at HSTW ⊢;clear hws;by_cases hr0:R0.size=0
    ·
     have hre:R0.toList=[]:=by rw [of_list (List.eq_nil_of_length_eq_zero (show R0.data.toList.length=0 by rw [ba_size];exact hr0))];decide +kernel
     have hnb:(s.extract (untilN s brE) s.size).data.toList.head?≠some 40:=by rw [HR0.out,of_list (List.eq_nil_of_length_eq_zero (show R0.data.toList.length=0 by rw [ba_size];exact hr0))];decide
     have HNB:=Lh_ hnb;clear hnb hr0;obtain ⟨x0,x1,x2,x3,x4,x5,x6⟩:=s7_ HSTW.out.2.1.1;have xf:=HSTW.out.2.1.2.1;obtain ⟨y0,y1,y2,y3,y4,y5,y6⟩:=s7_ HSTW.out.2.2.1.1;have yf:=HSTW.out.2.2.1.2.1;have HNONE:=Lh_ (show readR (d+1) s=none by rw [HRS.out];exact readS_nobr HHEAD.out (by simp [kindOf]) HNB.out);go_wp2;exact bodyPost_ret (v:=.tuple #[.agg #[.int .i64 2,.string p1,.string ByteArray.empty,.int .i64 nS,.int .i64 nT,.int .i64 nL,.slice none 0 0],.string ⟨#[]⟩,.bool false]) (by simp [results,Tryz.results111,go_sem,y0,y1,y2,y3,y4,y5,y6]) rfl (fail_post HNONE.out HSTW.out.1 (Nat.le_refl _) _ _ _ _ _ _ _ _ _)
    have hrp:0<R0.size:=by omega
    have hre:¬ R0.toList=[]:=fun h=>hr0 (by rw [(empty_iff R0).1 h];rfl)
    have hre2:R0.toList.isEmpty=false:=by simpa using hre
    obtain ⟨y,hy⟩:∃ y:UInt8,R0[0]'hrp=y:=⟨_,rfl⟩;have hyl:R0.data.toList[0]? = some y:=by rw [← hy];exact Lib.data_getElem? R0 0 hrp
    have HY:=Lh_ hyl;clear hyl;by_cases h40:y.toNat=40
    case neg =>
     have e40:((y.toNat:Int) != 40)=true:=by simp;omega
     have hnb:(s.extract (untilN s brE) s.size).data.toList.head?≠some 40:=by rw [HR0.out];exact fun h=>h40 ((head_is HY.out (n:=40) (by decide)).1 h)
     have HNB:=Lh_ hnb;clear hnb h40 hr0;obtain ⟨x0,x1,x2,x3,x4,x5,x6⟩:=s7_ HSTW.out.2.1.1;have xf:=HSTW.out.2.1.2.1;obtain ⟨y0,y1,y2,y3,y4,y5,y6⟩:=s7_ HSTW.out.2.2.1.1;have yf:=HSTW.out.2.2.1.2.1;have HNONE:=Lh_ (show readR (d+1) s=none by rw [HRS.out];exact readS_nobr HHEAD.out (by simp [kindOf]) HNB.out);go_wp2;exact bodyPost_ret (v:=.tuple #[.agg #[.int .i64 2,.string p1,.string ByteArray.empty,.int .i64 nS,.int .i64 nT,.int .i64 nL,.slice none 0 0],.string ⟨#[]⟩,.bool false]) (by simp [results,Tryz.results111,go_sem,y0,y1,y2,y3,y4,y5,y6]) rfl (fail_post HNONE.out HSTW.out.1 (Nat.le_refl _) _ _ _ _ _ _ _ _ _)
    have e40:((y.toNat:Int) != 40)=false:=by simp;omega
    have hbr:(s.extract (untilN s brE) s.size).data.toList.head? = some 40:=by rw [HR0.out];exact (head_is HY.out (n:=40) (by decide)).2 h40
    have hloop:readR (d+1) s=_:=HRS.out.trans (readS_loop HHEAD.out (by simp [kindOf]) hbr);rw [HR0.out] at hloop;obtain ⟨spec,hspec⟩:∃ sp,loopR (readR d) R0.size R0 []=sp:=⟨_,rfl⟩;rw [hspec] at hloop;have hrel0:RdRel w w.heap.size w2.heap.size ws.heap.size 72 2 p1 (nS) (nT) (nL) (readR d) spec R0 ws:=by
     refine ⟨.slice none 0 0,[],R0.size,HSTW.out,OwnsC.nil_ _ _ _ _,hspec,Nat.le_refl _,hrp,?_,?_,Nat.le_refl _⟩
     · rw [nodesL];have:=HRSZ.out;omega
     · have:=HRSZ.out;omega
    have HREL0:=Lh_ hrel0;have HLOOP:=Lh_ hloop;have HWS:=Lh_ (show w2.heap.size<ws.heap.size by exact HSTW.out.2.1.2.2);clear hrel0 hloop hspec h40 hbr hr0;go_wp2_with fail;clear e40 hre hre2 hy;go_loopw [8] (fun v wr=>∃ rest:ByteArray,v=.string rest∧Hid (RdRel w w.heap.size w2.heap.size ws.heap.size 72 2 p1 (nS) (nT) (nL) (readR d) spec rest wr)) (fun v _=>strSize v)
    case atStart=>exact ⟨R0,rfl,HREL0⟩
    case round =>
     obtain ⟨rest,rfl,hq⟩:=hrel;obtain ⟨v,acc,n,hst,hown,hsp,hn1,hn2,hn3,hn4,hn5⟩:=hq.out;clear hq HREL0;obtain ⟨n,rfl⟩:∃ g,n=g+1:=⟨n - 1,by omega⟩;obtain ⟨y,hy⟩:∃ y:UInt8,rest[0]'hn2=y:=⟨_,rfl⟩;have hyl:rest.data.toList[0]? = some y:=by rw [← hy];exact Lib.data_getElem? rest 0 hn2
     have HY2:=Lh_ hyl;have HSTR:=Lh_ hst;have HOWN:=Lh_ hown;have HSPC:=Lh_ hsp;have HN1:=Lh_ (And.intro hn1 (And.intro hn3 (And.intro hn4 hn5)));clear hyl hst hown hsp hn1 hn3 hn5;by_cases h41:y.toNat=41
     ·
      have e41:((y.toNat:Int) != 41)=false:=by simp;omega
      have hsp2:=HSPC.out;rw [loopR,if_pos (show rest.data.toList.head? = some (41:UInt8) from (head_is HY2.out (n:=41) (by decide)).2 h41)] at hsp2;have hfin:readR (d+1) s=some (.mk 2 p1 ⟨#[]⟩ (nS) (nT) (nL) acc,rest.extract 1 rest.size):=by rw [HLOOP.out,← hsp2];rfl
      have HFIN:=Lh_ hfin;clear hfin hsp2 h41;obtain ⟨A5,c5,rfl,hc51,hc52,hc53⟩:=HOWN.out.cs;have HC51:=Lh_ hc51;have HC52:=Lh_ hc52;have HC53:=Lh_ hc53;clear hc51 hc52 hc53;have j1:(1:Int)≤(rest.size:Int):=by omega
      go_wp2_with fail;refine wp_region_held_drew (S:=fun w'=>BoxL w' w2.heap.size [.int .i64 2,.string p1,.string ByteArray.empty,.int .i64 (nS),.int .i64 (nT),.int .i64 (nL),.slice A5 acc.length c5]) (by kernel_rfl) HSTR.out.2.1.drew (fun hS0=>?_);refine tk1 0 175 (.agg #[.int .i64 2,.string p1,.string ByteArray.empty,.int .i64 (nS),.int .i64 (nT),.int .i64 (nL),.slice A5 acc.length c5]) rfl (fun w' hS=>by (obtain ⟨x0,x1,x2,x3,x4,x5,x6⟩:=s7_ hS.1;go_simp)) hS0 ?_;try simp only [Act.put,sA_,sB_,sC_]
      refine tk1 1 176 (.string rest) rfl (fun w' hS=>by go_simp) hS0 ?_;try simp only [Act.put,sA_,sB_,sC_]
      refine tk1 2 177 (.string (rest.extract 1 rest.size)) rfl (fun w' hS=>by go_simp) hS0 ?_;try simp only [Act.put,sA_,sB_,sC_]
      refine rd1 3 (o:=⟨none,.store _ _ _,_,_,_,_⟩) rfl (fun K hK=>?_);obtain ⟨y0,y1,y2,y3,y4,y5,y6⟩:=s7_ HSTR.out.2.2.1.1;have yf:=HSTR.out.2.2.1.2.1;go_simp;have hne:w.heap.size≠w2.heap.size:=by have:=HSTR.out.2.2.2;omega
      refine hK.out _ _ (((((((HSTR.out.2.1.far hne _).far hne _).far hne _).far hne _).far hne _).far hne _).far hne _).drew (fun _=>?_);clear hK K hS0;try simp only [Act.put,sA_,sB_,sC_]
      refine tk1 4 5 (.string (rest.extract 1 rest.size)) rfl (fun w' hS=>by go_simp) (by assumption) ?_;try simp only [Act.put,sA_,sB_,sC_]
      refine tk1 5 6 (.bool true) rfl (fun w' hS=>by go_simp) (by assumption) ?_;try simp only [Act.put,sA_,sB_,sC_]
      refine wpAnyH_done (by kernel_rfl) ?_ _;go_wp2_with fail;refine bodyPost_ret (v:=.tuple #[.agg #[.int .i64 2,.string p1,.string ByteArray.empty,.int .i64 (nS),.int .i64 (nT),.int .i64 (nL),.slice A5 acc.length c5],.string (rest.extract 1 rest.size),.bool true]) (by simp [results,Tryz.results111,go_sem,y0,y1,y2,y3,y4,y5,y6]) rfl ⟨below7d HSTR.out.1 (Nat.le_refl _) _ _ _ _ _ _ _,.inl ⟨_,contCells 2 p1 ByteArray.empty (nS) (nT) (nL) A5 acc.length c5,_,HFIN.out,rfl,?_⟩⟩;refine NewC.drew ?_;unfold NewC;rw [CRdS,fin_size];refine ⟨A5,c5,rfl,⟨by unfold okInt;omega,by unfold maxLen;have:=HP1S.out;omega,by unfold maxLen;decide,BS.out,BT.out,BL.out⟩,HC51.out,HC52.out,fun hn=>?_⟩;obtain ⟨bb,o,hA,hbb,hcs⟩:=HC53.out hn;have hs1:=HWS.out;have hs2:=HSTR.out.2.2.2;exact ⟨bb,o,hA,⟨by omega,hbb.2⟩,CsAtS_mono (fun y hy=>⟨by have:=hy.1;omega,hy.2⟩) (fun y o u hy hu=>fin_cells _ _ _ _ _ _ _ y o u (by have:=hy.1;omega) hu) bb hbb acc o hcs⟩
     ·
      have e41:((y.toNat:Int) != 41)=true:=by simp;omega
      have j1:(1:Int)≤(rest.size:Int):=by omega
      have hw64:wrap64 (d:Int)=(d:Int):=by have:=HDD.out;unfold wrap64;omega
      have hsp2:=HSPC.out;rw [loopR,if_neg (show ¬ rest.data.toList.head? = some (41:UInt8) from fun h=>h41 ((head_is HY2.out (n:=41) (by decide)).1 h))] at hsp2;have hcall:=HIH2.out (rest.extract 1 rest.size) wr (by rw [ByteArray.size_extract];have:=HN1.out.2.2.1;omega) (HOK.out.below HSTR.out.1);obtain ⟨RR,hRR⟩:∃ R,readR d (rest.extract 1 rest.size)=R:=⟨_,rfl⟩;rw [hRR] at hcall hsp2;have HCALL:=Lh_ hcall;have HSP2:=Lh_ hsp2;have HRR:=Lh_ hRR;clear hcall hsp2 hRR h41 HSPC;go_wp2_with fail;try rw [hw64]
      refine HCALL.out.mono ?_;rintro e' w5 ⟨hb5,hor⟩;clear e41 hw64 j1;clear hy;clear hn2 hn4;try clear e0 e0'
      try clear hlen1
      try clear i1
      try clear hN2
      try clear hlen2
      have HST5:=Lh_ (HSTR.out.below hb5);have HOWN5:=Lh_ (HOWN.out.below hb5);have HB5:=Lh_ hb5;rcases hor with ⟨c2,cs2,more,rfl,rfl,hnew⟩ | ⟨rfl,kk2,i2,l2,s2,t2,e2,A2,m2,cp2,rfl⟩
      ·
       skip
       have hlen:=read_len _ _ _ _ HRR.out;rw [ByteArray.size_extract] at hlen;have hpos2:=nodesC_pos c2;have hsp3:=HSP2.out;simp only at hsp3;obtain ⟨kk2,i2,l2,s2,t2,e2,xs2⟩:=c2;obtain ⟨A3,c3',rfl⟩:=CRdS_cells hnew;simp only [contCells];have HNEW:=Lh_ hnew;have HLEN:=Lh_ (And.intro hlen hpos2);have HSP3:=Lh_ hsp3;clear hnew hlen hpos2 hsp3 hb5 HSP2;go_upto_region 30 with fail
       obtain ⟨w6,hw6⟩:∃ w6,w5.alloc (.cells #[.int .i64 kk2,.string i2,.string l2,.int .i64 s2,.int .i64 t2,.int .i64 e2,.slice A3 xs2.length c3'] 72)=w6:=⟨_,rfl⟩;obtain ⟨hb6,hg6,hbox6⟩:=box7 hw6;rw [hw6];have HST6:=Lh_ (HST5.out.below hb6);have HOWN6:=Lh_ (HOWN5.out.below hb6);have HB6:=Lh_ hb6;have HG6:=Lh_ hg6;have hnew6:CRdS w6 (fun x=>wr.heap.size≤x∧x<w5.heap.size) (.mk kk2 i2 l2 s2 t2 e2 xs2) (contCells kk2 i2 l2 s2 t2 e2 A3 xs2.length c3'):=CRdS_mono (fun _ h=>h) (fun y o u hy hu=>(hb6.cell (p:=⟨y,o,none⟩) (by exact hy.2)).trans hu) _ _ HNEW.out;have HNEW6:=Lh_ hnew6;obtain ⟨b0,b1,b2,b3,b4,b5,b6⟩:=hbox6.zero;clear hw6 hb6 hg6 hbox6 hnew6 HST5 HOWN5 HNEW;by_cases hm0:more.size=0
       ·
        have hme:more.toList=[]:=by rw [of_list (List.eq_nil_of_length_eq_zero (show more.data.toList.length=0 by rw [ba_size];exact hm0))];decide +kernel
        have hsp4:=HSP3.out;rw [if_pos hm0] at hsp4;have hnone:readR (d+1) s=none:=by rw [HLOOP.out,← hsp4];rfl
        have HNN:=Lh_ hnone;clear hnone hsp4 hm0 b0 b1 b2 b3 b4 b5 b6;obtain ⟨A5,c5,rfl,-,-,-⟩:=HOWN6.out.cs;obtain ⟨x0,x1,x2,x3,x4,x5,x6⟩:=s7_ HST6.out.2.1.1;have xf:=HST6.out.2.1.2.1;obtain ⟨y0,y1,y2,y3,y4,y5,y6⟩:=s7_ HST6.out.2.2.1.1;have yf:=HST6.out.2.2.1.2.1;have HNONE:=Lh_ (show readR (d+1) s=none by exact HNN.out);go_wp2;exact bodyPost_ret (v:=.tuple #[.agg #[.int .i64 2,.string p1,.string ByteArray.empty,.int .i64 (nS),.int .i64 (nT),.int .i64 (nL),.slice A5 acc.length c5],.string ⟨#[]⟩,.bool false]) (by simp [results,Tryz.results111,go_sem,y0,y1,y2,y3,y4,y5,y6]) rfl (fail_post HNONE.out HST6.out.1 (Nat.le_refl _) _ _ _ _ _ _ _ _ _)
       have hme:¬ more.toList=[]:=fun h=>hm0 (by rw [(empty_iff more).1 h];rfl)
       have hme2:more.toList.isEmpty=false:=by simpa using hme
       have hsp4:=HSP3.out;rw [if_neg hm0] at hsp4;have HSP4:=Lh_ hsp4;clear hsp4;obtain ⟨w7,hw7⟩:∃ w7,w6.alloc (.cells #[.int .i64 kk2,.string i2,.string l2,.int .i64 s2,.int .i64 t2,.int .i64 e2,.slice A3 xs2.length c3'] 72)=w7:=⟨_,rfl⟩;obtain ⟨hb7,hg7,-⟩:=box7 hw7;have hnews:=cell7_new w6 72 kk2 i2 l2 s2 t2 e2 A3 xs2.length c3';rw [hw7] at hnews;have HST7:=Lh_ (HST6.out.below hb7);obtain ⟨css,o1,o2,o3'⟩:=HOWN6.out.below hb7;have hlenx:acc.length≤1000:=by have:=nodesL_length acc;have:=HN1.out.2.1;omega
       have HO1:=Lh_ o1;have HO2:=Lh_ o2;have HO3:=Lh_ o3';have HNEWS:=Lh_ hnews;have HLENX:=Lh_ hlenx;have HG7:=Lh_ hg7;have HB7:=Lh_ hb7;clear o2 o3' hnews hlenx hg7 hb7;have hx7:CRdS w7 (fun y=>ws.heap.size≤y∧y<w7.heap.size∧v.ownBlock≠some y) (.mk kk2 i2 l2 s2 t2 e2 xs2) (contCells kk2 i2 l2 s2 t2 e2 A3 xs2.length c3') :=
        CRdS_mono (fun y hy=>⟨by have:=hy.1;have:=HN1.out.2.2.2;omega,by have:=hy.2;have:=HB6.out.size;have:=HG7.out;omega,fun h=>by have h0:=(HOWN.out.lt y h).2;have:=hy.1;omega⟩) (fun y o u hy hu=>(HB7.out.cell (p:=⟨y,o,none⟩) (by have:=hy.2;have:=HB6.out.size;show y<w6.heap.size;omega)).trans hu) _ _ HNEW6.out
       have HX7:=Lh_ hx7;clear hx7;have u6:=HST6.out.2.1.1 6 _ rfl;go_wp2_with (at_builtin;go_must (refine wpList_append_own_at _ rfl _ _ 70 rfl ws.heap.size 72 i0 _ 7 88 Tryz.underlying70 HI0.out HZ0.out HZ1.out HZ2.out rfl (by decide) _ _ _ rfl o1 ⟨w6.heap.size,0,none⟩ 1 1 _ rfl rfl HNEWS.out (CRdS_one HNEW6.out) (by have:=HLENX.out;unfold maxLen;omega) (by have:=HLENX.out;omega) (by have:=HG7.out;have:=HN1.out.2.2.2;have:=HB5.out.size;have:=HB6.out.size;omega) ?_);intro v' w8 hown' hgrow _ hat;have HROW:=Lh_ (show ∀ q,v.ownBlock=some q→ws.heap.size≤q from fun q hq=>(HOWN.out.lt q hq).1);have hown8:=OwnsC.app (w:=w7) HO1.out HO2.out HO3.out HX7.out hown' hgrow (fun q hq=>Or.elim hat (fun h=>.inl (h.symm.trans hq)) (fun h=>.inr (by rw [hq] at h;have:=Option.some.inj h;omega)));obtain ⟨A8,c8,rfl,-,-,-⟩:=hown8.cs;rw [show (acc ++ [Cont.mk kk2 i2 l2 s2 t2 e2 xs2]).length=acc.length+1 by simp] at hown8 ⊢;have hst8:=HST7.out.row hgrow (fun q hq=>by have:=HROW.out q hq;have:=HWS.out;omega);have HST8:=Lh_ hst8;have HOWN8:=Lh_ hown8;have HS8:=Lh_ (show w7.heap.size≤w8.heap.size from hgrow.size);have z6:=hst8.2.1.1 6 _ rfl;have zf:=hst8.2.1.2.1;clear hst8 hown8 hown' hgrow hat u6 o1 hw7 b0 b1 b2 b3 b4 b5 b6);have hst9:=HST8.out.set_ (j:=6) (by simp) (.slice A8 (acc.length+1) c8);simp only [List.set_cons_zero,List.set_cons_succ] at hst9;have hown9:=HOWN8.out.grownb (grown_one w8 w2.heap.size 6 (.slice A8 (acc.length+1) c8)) (fun y hy e=>by have:=HWS.out;omega) (by have:=HWS.out;omega);have hsz8:w7.heap.size≤w8.heap.size:=HS8.out;have hrel9:RdRel w w.heap.size w2.heap.size ws.heap.size 72 2 p1 (nS) (nT) (nL) (readR d) spec more (w8.setCell ⟨w2.heap.size,6,none⟩ (.slice A8 (acc.length+1) c8)):=by
        obtain ⟨lq1,lq2⟩:=HLEN.out;obtain ⟨m1,m2,m3,m4⟩:=HN1.out;refine ⟨_,acc ++ [.mk kk2 i2 l2 s2 t2 e2 xs2],n,hst9,hown9,HSP4.out,by omega,by omega,?_,by omega,?_⟩
        · rw [nodesL_app];omega
        ·
         have e1:=HB5.out.size;have e2:=HB6.out.size;have e3:=HG7.out
         show _≤(w8.setCell _ _).heap.size
         simp;omega
       have hmeas:more.size<rest.size:=by have:=HLEN.out;omega
       have HREL9:=Lh_ hrel9;have HMEAS:=Lh_ hmeas;clear hrel9 hmeas hown9 hst9 hsz8 z6 zf;go_roundw
       case rel=>exact ⟨more,rfl,HREL9⟩
       case measure=>exact HMEAS.out
      ·
       skip
       have hsp3:=HSP2.out;simp only at hsp3;have hnone:readR (d+1) s=none:=by rw [HLOOP.out,← hsp3];rfl
       have HNN:=Lh_ hnone;clear hnone hsp3 hb5 HSP2;go_upto_region 30 with fail
       obtain ⟨w6,hw6⟩:∃ w6,w5.alloc (.cells #[.int .i64 kk2,.string i2,.string l2,.int .i64 s2,.int .i64 t2,.int .i64 e2,.slice A2 m2 cp2] 72)=w6:=⟨_,rfl⟩;obtain ⟨hb6,hg6,-⟩:=box7 hw6;rw [hw6];have HST6:=Lh_ (HST5.out.below hb6);have HOWN6:=Lh_ (HOWN5.out.below hb6);clear hw6 hb6 hg6 HST5 HOWN5;obtain ⟨A5,c5,rfl,-,-,-⟩:=HOWN6.out.cs;obtain ⟨x0,x1,x2,x3,x4,x5,x6⟩:=s7_ HST6.out.2.1.1;have xf:=HST6.out.2.1.2.1;obtain ⟨y0,y1,y2,y3,y4,y5,y6⟩:=s7_ HST6.out.2.2.1.1;have yf:=HST6.out.2.2.1.2.1;have HNONE:=Lh_ (show readR (d+1) s=none by exact HNN.out);go_wp2;exact bodyPost_ret (v:=.tuple #[.agg #[.int .i64 2,.string p1,.string ByteArray.empty,.int .i64 (nS),.int .i64 (nT),.int .i64 (nL),.slice A5 acc.length c5],.string ⟨#[]⟩,.bool false]) (by simp [results,Tryz.results111,go_sem,y0,y1,y2,y3,y4,y5,y6]) rfl (fail_post HNONE.out HST6.out.1 (Nat.le_refl _) _ _ _ _ _ _ _ _ _)
   ·
    have hMb:((M:Int) == 3)=false:=beq_eq_false_iff_ne.2 (by omega)
    obtain ⟨x0,x1,x2,x3,x4,x5,x6⟩:=s7_ HST5.out.2.1.1;have xf:=HST5.out.2.1.2.1;obtain ⟨y0,y1,y2,y3,y4,y5,y6⟩:=s7_ HST5.out.2.2.1.1;have yf:=HST5.out.2.2.1.2.1;have HNONE:=Lh_ (show readR (d+1) s=none by rw [HRS.out];exact readS_none (by rw [HH.out,HPP.out];exact headP_none3 (by rw [HQraid.out];decide) (fun h=>hM3 (by rw [← HM.out,← HSL.out];exact h.2)) (fun h=>absurd (HQraid.out.symm.trans h.1) (by decide))));go_wp2;exact bodyPost_ret (v:=.tuple #[.agg #[.int .i64 0,.string p1,.string ByteArray.empty,.int .i64 0,.int .i64 0,.int .i64 0,.slice none 0 0],.string ⟨#[]⟩,.bool false]) (by simp [results,Tryz.results111,go_sem,y0,y1,y2,y3,y4,y5,y6]) rfl (fail_post HNONE.out HST5.out.1 (Nat.le_refl _) _ _ _ _ _ _ _ _ _)
  have HNraid:=Lh_ hqraid;clear hqraid;by_cases hqpv:p0=pvN
  ·
   skip
   have HQpv:=Lh_ hqpv;clear hqpv;have efs:(p0.toList == [102,115])=false:=by rw [HQpv.out];decide +kernel
   have eraid:(p0.toList == [114,97,105,100])=false:=by rw [HQpv.out];decide +kernel
   have ecrypt:(p0.toList == [99,114,121,112,116])=false:=by rw [HQpv.out];decide +kernel
   have epv:(p0.toList == [112,118])=true:=by rw [HQpv.out];decide +kernel
   have etable:(p0.toList == [116,97,98,108,101])=false:=by rw [HQpv.out];decide +kernel
   by_cases hM3:M=2
   ·
    subst hM3
    obtain ⟨q0,q1,rfl⟩:∃ q0 q1,SL=[q0,q1]:=by
     have h:=HM.out;match SL,h with
     | [q0,q1],_=>exact ⟨q0,q1,rfl⟩
     | [],h=>simp at h
     | [_],h=>simp at h
     | _ :: _ :: _ :: _ ,h=>simp at h
    have hqs0:q0.size≤maxLen:=by have:=HSSZ.out q0 (by simp);unfold maxLen;omega
    have HQS0:=Lh_ hqs0;clear hqs0;have hqs1:q1.size≤maxLen:=by have:=HSSZ.out q1 (by simp);unfold maxLen;omega
    have HQS1:=Lh_ hqs1;clear hqs1;go_wp2_with fail;have HLT5:=Lh_ (show w2.heap.size≠w4.heap.size by have:=HLT4.out;omega);refine wp_region_held_drew (S:=fun w'=>BoxL w' w4.heap.size ([q0,q1].map Value.string)) (by kernel_rfl) HSB.out.drew (fun hS0=>?_);refine tk1 0 119 (.slice (some ⟨w4.heap.size,0,none⟩) 2 2) rfl (fun w' hS=>by go_simp) (by assumption) ?_;try simp only [Act.put,sA_,sB_,sC_]
    refine tk1 1 120 (.pointer (some ⟨w4.heap.size,0,none⟩)) rfl (fun w' hS=>by go_simp) (by assumption) ?_;try simp only [Act.put,sA_,sB_,sC_]
    refine tk1 2 121 (.string q0) rfl (fun w' hS=>by (have u:=hS.1 0 _ rfl;go_simp)) (by assumption) ?_;try simp only [Act.put,sA_,sB_,sC_]
    refine tk1 4 123 (.slice (some ⟨w4.heap.size,0,none⟩) 2 2) rfl (fun w' hS=>by go_simp) (by assumption) ?_;try simp only [Act.put,sA_,sB_,sC_]
    refine tk1 5 124 (.pointer (some ⟨w4.heap.size,1,none⟩)) rfl (fun w' hS=>by go_simp) (by assumption) ?_;try simp only [Act.put,sA_,sB_,sC_]
    refine tk1 6 125 (.string q1) rfl (fun w' hS=>by (have u:=hS.1 1 _ rfl;go_simp)) (by assumption) ?_;try simp only [Act.put,sA_,sB_,sC_]
    refine tk1 8 127 (.pointer (some ⟨w2.heap.size,0,none⟩)) rfl (fun w' hS=>by go_simp) (by assumption) ?_;try simp only [Act.put,sA_,sB_,sC_]
    refine rd1 3 (o:=⟨some 122,.call ⟨_,_,_⟩,_,_,_,_⟩) rfl (fun K hK=>?_);go_simp;go_at_call 156;refine (c7RNumber_any q0 _ HQS0.out).mono ?_;rintro e' w' ⟨rfl,rfl⟩;refine hK.out _ _ (by assumption) (fun _=>?_);clear hK K;try simp only [Act.put,sA_,sB_,sC_]
    refine rd1 7 (o:=⟨some 126,.call ⟨_,_,_⟩,_,_,_,_⟩) rfl (fun K hK=>?_);go_simp;go_at_call 156;refine (c7RNumber_any q1 _ HQS1.out).mono ?_;rintro e' w' ⟨rfl,rfl⟩;refine hK.out _ _ (by assumption) (fun _=>?_);clear hK K;try simp only [Act.put,sA_,sB_,sC_]
    refine rd1 9 (o:=⟨none,.store _ _ _,_,_,_,_⟩) rfl (fun K hK=>?_);obtain ⟨x0,x1,x2,x3,x4,x5,x6⟩:=s7_ HST5.out.2.1.1;have xf:=HST5.out.2.1.2.1;go_simp;have HST6:=Lh_ (HST5.out.set_ (j:=0) (by simp) (.int .i64 4));simp only [List.set_cons_zero,List.set_cons_succ] at HST6;have HSB6:=Lh_ (HSB.out.far (g':=w2.heap.size) (j:=0) HLT5.out (.int .i64 4));refine hK.out _ _ HSB6.out.drew (fun hS=>?_);clear hK K;clear x0 x1 x2 x3 x4 x5 x6 xf;try simp only [Act.put,sA_,sB_,sC_]
    refine tk1 10 128 (.pointer (some ⟨w2.heap.size,3,none⟩)) rfl (fun w' hS=>by go_simp) (by assumption) ?_;try simp only [Act.put,sA_,sB_,sC_]
    refine rd1 11 (o:=⟨none,.store _ _ _,_,_,_,_⟩) rfl (fun K hK=>?_);obtain ⟨x0,x1,x2,x3,x4,x5,x6⟩:=s7_ HST6.out.2.1.1;have xf:=HST6.out.2.1.2.1;go_simp;have HST7:=Lh_ (HST6.out.set_ (j:=3) (by simp) (.int .i64 (numRd q0)));simp only [List.set_cons_zero,List.set_cons_succ] at HST7;have HSB7:=Lh_ (HSB6.out.far (g':=w2.heap.size) (j:=3) HLT5.out (.int .i64 (numRd q0)));refine hK.out _ _ HSB7.out.drew (fun hS=>?_);clear hK K;clear x0 x1 x2 x3 x4 x5 x6 xf;try simp only [Act.put,sA_,sB_,sC_]
    refine tk1 12 129 (.pointer (some ⟨w2.heap.size,4,none⟩)) rfl (fun w' hS=>by go_simp) (by assumption) ?_;try simp only [Act.put,sA_,sB_,sC_]
    refine rd1 13 (o:=⟨none,.store _ _ _,_,_,_,_⟩) rfl (fun K hK=>?_);obtain ⟨x0,x1,x2,x3,x4,x5,x6⟩:=s7_ HST7.out.2.1.1;have xf:=HST7.out.2.1.2.1;go_simp;have HST8:=Lh_ (HST7.out.set_ (j:=4) (by simp) (.int .i64 (numRd q1)));simp only [List.set_cons_zero,List.set_cons_succ] at HST8;have HSB8:=Lh_ (HSB7.out.far (g':=w2.heap.size) (j:=4) HLT5.out (.int .i64 (numRd q1)));refine hK.out _ _ HSB8.out.drew (fun hS=>?_);clear hK K;clear x0 x1 x2 x3 x4 x5 x6 xf;try simp only [Act.put,sA_,sB_,sC_]
    refine wpAnyH_done (by kernel_rfl) ?_ _;clear hP0 hP2;have BS:=Lh_ (show okInt (numRd q0) by have h:=numR_bound q0;unfold okInt;omega);have BT:=Lh_ (show okInt (numRd q1) by have h:=numR_bound q1;unfold okInt;omega);have BL:=Lh_ (show okInt (0) by unfold okInt;omega);have hhd:=headP_pv (p1:=p1) HQpv.out HSL.out;have HHD:=Lh_ hhd;clear hhd;clear efs eraid ecrypt epv etable;obtain ⟨nS,hnS⟩:∃ n,numRd q0=n:=⟨_,rfl⟩;obtain ⟨nT,hnT⟩:∃ n,numRd q1=n:=⟨_,rfl⟩;simp only [hnS,hnT] at HHD HST8 BS BT ⊢;clear hnS hnT;have hst:=HST8.out.below (w':=(((w5.setCell ⟨w2.heap.size,0,none⟩ (.int .i64 4)).setCell ⟨w2.heap.size,3,none⟩ (.int .i64 nS)).setCell ⟨w2.heap.size,4,none⟩ (.int .i64 nT)).drew) (below_drewN_self _ _ 1);have HSTW:=Lh_ hst;clear hst;have HHEAD:=Lh_ (show headP (partsB 58 (s.extract 0 (untilN s brE)))=some (.mk 4 p1 ⟨#[]⟩ nS nT 0 []) by rw [HH.out,HPP.out];exact HHD.out);obtain ⟨ws,hws⟩:∃ ws,(((w5.setCell ⟨w2.heap.size,0,none⟩ (.int .i64 4)).setCell ⟨w2.heap.size,3,none⟩ (.int .i64 nS)).setCell ⟨w2.heap.size,4,none⟩ (.int .i64 nT)).drew=ws:=⟨_,rfl⟩;rw [hws] at HSTW ⊢;clear hws;by_cases hr0:R0.size=0
    ·
     have hre:R0.toList=[]:=by rw [of_list (List.eq_nil_of_length_eq_zero (show R0.data.toList.length=0 by rw [ba_size];exact hr0))];decide +kernel
     have hnb:(s.extract (untilN s brE) s.size).data.toList.head?≠some 40:=by rw [HR0.out,of_list (List.eq_nil_of_length_eq_zero (show R0.data.toList.length=0 by rw [ba_size];exact hr0))];decide
     have HNB:=Lh_ hnb;clear hnb hr0;obtain ⟨x0,x1,x2,x3,x4,x5,x6⟩:=s7_ HSTW.out.2.1.1;have xf:=HSTW.out.2.1.2.1;obtain ⟨y0,y1,y2,y3,y4,y5,y6⟩:=s7_ HSTW.out.2.2.1.1;have yf:=HSTW.out.2.2.1.2.1;have HNONE:=Lh_ (show readR (d+1) s=none by rw [HRS.out];exact readS_nobr HHEAD.out (by simp [kindOf]) HNB.out);go_wp2;exact bodyPost_ret (v:=.tuple #[.agg #[.int .i64 4,.string p1,.string ByteArray.empty,.int .i64 nS,.int .i64 nT,.int .i64 0,.slice none 0 0],.string ⟨#[]⟩,.bool false]) (by simp [results,Tryz.results111,go_sem,y0,y1,y2,y3,y4,y5,y6]) rfl (fail_post HNONE.out HSTW.out.1 (Nat.le_refl _) _ _ _ _ _ _ _ _ _)
    have hrp:0<R0.size:=by omega
    have hre:¬ R0.toList=[]:=fun h=>hr0 (by rw [(empty_iff R0).1 h];rfl)
    have hre2:R0.toList.isEmpty=false:=by simpa using hre
    obtain ⟨y,hy⟩:∃ y:UInt8,R0[0]'hrp=y:=⟨_,rfl⟩;have hyl:R0.data.toList[0]? = some y:=by rw [← hy];exact Lib.data_getElem? R0 0 hrp
    have HY:=Lh_ hyl;clear hyl;by_cases h40:y.toNat=40
    case neg =>
     have e40:((y.toNat:Int) != 40)=true:=by simp;omega
     have hnb:(s.extract (untilN s brE) s.size).data.toList.head?≠some 40:=by rw [HR0.out];exact fun h=>h40 ((head_is HY.out (n:=40) (by decide)).1 h)
     have HNB:=Lh_ hnb;clear hnb h40 hr0;obtain ⟨x0,x1,x2,x3,x4,x5,x6⟩:=s7_ HSTW.out.2.1.1;have xf:=HSTW.out.2.1.2.1;obtain ⟨y0,y1,y2,y3,y4,y5,y6⟩:=s7_ HSTW.out.2.2.1.1;have yf:=HSTW.out.2.2.1.2.1;have HNONE:=Lh_ (show readR (d+1) s=none by rw [HRS.out];exact readS_nobr HHEAD.out (by simp [kindOf]) HNB.out);go_wp2;exact bodyPost_ret (v:=.tuple #[.agg #[.int .i64 4,.string p1,.string ByteArray.empty,.int .i64 nS,.int .i64 nT,.int .i64 0,.slice none 0 0],.string ⟨#[]⟩,.bool false]) (by simp [results,Tryz.results111,go_sem,y0,y1,y2,y3,y4,y5,y6]) rfl (fail_post HNONE.out HSTW.out.1 (Nat.le_refl _) _ _ _ _ _ _ _ _ _)
    have e40:((y.toNat:Int) != 40)=false:=by simp;omega
    have hbr:(s.extract (untilN s brE) s.size).data.toList.head? = some 40:=by rw [HR0.out];exact (head_is HY.out (n:=40) (by decide)).2 h40
    have hloop:readR (d+1) s=_:=HRS.out.trans (readS_loop HHEAD.out (by simp [kindOf]) hbr);rw [HR0.out] at hloop;obtain ⟨spec,hspec⟩:∃ sp,loopR (readR d) R0.size R0 []=sp:=⟨_,rfl⟩;rw [hspec] at hloop;have hrel0:RdRel w w.heap.size w2.heap.size ws.heap.size 72 4 p1 (nS) (nT) (0) (readR d) spec R0 ws:=by
     refine ⟨.slice none 0 0,[],R0.size,HSTW.out,OwnsC.nil_ _ _ _ _,hspec,Nat.le_refl _,hrp,?_,?_,Nat.le_refl _⟩
     · rw [nodesL];have:=HRSZ.out;omega
     · have:=HRSZ.out;omega
    have HREL0:=Lh_ hrel0;have HLOOP:=Lh_ hloop;have HWS:=Lh_ (show w2.heap.size<ws.heap.size by exact HSTW.out.2.1.2.2);clear hrel0 hloop hspec h40 hbr hr0;go_wp2_with fail;clear e40 hre hre2 hy;go_loopw [8] (fun v wr=>∃ rest:ByteArray,v=.string rest∧Hid (RdRel w w.heap.size w2.heap.size ws.heap.size 72 4 p1 (nS) (nT) (0) (readR d) spec rest wr)) (fun v _=>strSize v)
    case atStart=>exact ⟨R0,rfl,HREL0⟩
    case round =>
     obtain ⟨rest,rfl,hq⟩:=hrel;obtain ⟨v,acc,n,hst,hown,hsp,hn1,hn2,hn3,hn4,hn5⟩:=hq.out;clear hq HREL0;obtain ⟨n,rfl⟩:∃ g,n=g+1:=⟨n - 1,by omega⟩;obtain ⟨y,hy⟩:∃ y:UInt8,rest[0]'hn2=y:=⟨_,rfl⟩;have hyl:rest.data.toList[0]? = some y:=by rw [← hy];exact Lib.data_getElem? rest 0 hn2
     have HY2:=Lh_ hyl;have HSTR:=Lh_ hst;have HOWN:=Lh_ hown;have HSPC:=Lh_ hsp;have HN1:=Lh_ (And.intro hn1 (And.intro hn3 (And.intro hn4 hn5)));clear hyl hst hown hsp hn1 hn3 hn5;by_cases h41:y.toNat=41
     ·
      have e41:((y.toNat:Int) != 41)=false:=by simp;omega
      have hsp2:=HSPC.out;rw [loopR,if_pos (show rest.data.toList.head? = some (41:UInt8) from (head_is HY2.out (n:=41) (by decide)).2 h41)] at hsp2;have hfin:readR (d+1) s=some (.mk 4 p1 ⟨#[]⟩ (nS) (nT) (0) acc,rest.extract 1 rest.size):=by rw [HLOOP.out,← hsp2];rfl
      have HFIN:=Lh_ hfin;clear hfin hsp2 h41;obtain ⟨A5,c5,rfl,hc51,hc52,hc53⟩:=HOWN.out.cs;have HC51:=Lh_ hc51;have HC52:=Lh_ hc52;have HC53:=Lh_ hc53;clear hc51 hc52 hc53;have j1:(1:Int)≤(rest.size:Int):=by omega
      go_wp2_with fail;refine wp_region_held_drew (S:=fun w'=>BoxL w' w2.heap.size [.int .i64 4,.string p1,.string ByteArray.empty,.int .i64 (nS),.int .i64 (nT),.int .i64 0,.slice A5 acc.length c5]) (by kernel_rfl) HSTR.out.2.1.drew (fun hS0=>?_);refine tk1 0 175 (.agg #[.int .i64 4,.string p1,.string ByteArray.empty,.int .i64 (nS),.int .i64 (nT),.int .i64 0,.slice A5 acc.length c5]) rfl (fun w' hS=>by (obtain ⟨x0,x1,x2,x3,x4,x5,x6⟩:=s7_ hS.1;go_simp)) hS0 ?_;try simp only [Act.put,sA_,sB_,sC_]
      refine tk1 1 176 (.string rest) rfl (fun w' hS=>by go_simp) hS0 ?_;try simp only [Act.put,sA_,sB_,sC_]
      refine tk1 2 177 (.string (rest.extract 1 rest.size)) rfl (fun w' hS=>by go_simp) hS0 ?_;try simp only [Act.put,sA_,sB_,sC_]
      refine rd1 3 (o:=⟨none,.store _ _ _,_,_,_,_⟩) rfl (fun K hK=>?_);obtain ⟨y0,y1,y2,y3,y4,y5,y6⟩:=s7_ HSTR.out.2.2.1.1;have yf:=HSTR.out.2.2.1.2.1;go_simp;have hne:w.heap.size≠w2.heap.size:=by have:=HSTR.out.2.2.2;omega
      refine hK.out _ _ (((((((HSTR.out.2.1.far hne _).far hne _).far hne _).far hne _).far hne _).far hne _).far hne _).drew (fun _=>?_);clear hK K hS0;try simp only [Act.put,sA_,sB_,sC_]
      refine tk1 4 5 (.string (rest.extract 1 rest.size)) rfl (fun w' hS=>by go_simp) (by assumption) ?_;try simp only [Act.put,sA_,sB_,sC_]
      refine tk1 5 6 (.bool true) rfl (fun w' hS=>by go_simp) (by assumption) ?_;try simp only [Act.put,sA_,sB_,sC_]
      refine wpAnyH_done (by kernel_rfl) ?_ _;go_wp2_with fail;refine bodyPost_ret (v:=.tuple #[.agg #[.int .i64 4,.string p1,.string ByteArray.empty,.int .i64 (nS),.int .i64 (nT),.int .i64 0,.slice A5 acc.length c5],.string (rest.extract 1 rest.size),.bool true]) (by simp [results,Tryz.results111,go_sem,y0,y1,y2,y3,y4,y5,y6]) rfl ⟨below7d HSTR.out.1 (Nat.le_refl _) _ _ _ _ _ _ _,.inl ⟨_,contCells 4 p1 ByteArray.empty (nS) (nT) (0) A5 acc.length c5,_,HFIN.out,rfl,?_⟩⟩;refine NewC.drew ?_;unfold NewC;rw [CRdS,fin_size];refine ⟨A5,c5,rfl,⟨by unfold okInt;omega,by unfold maxLen;have:=HP1S.out;omega,by unfold maxLen;decide,BS.out,BT.out,BL.out⟩,HC51.out,HC52.out,fun hn=>?_⟩;obtain ⟨bb,o,hA,hbb,hcs⟩:=HC53.out hn;have hs1:=HWS.out;have hs2:=HSTR.out.2.2.2;exact ⟨bb,o,hA,⟨by omega,hbb.2⟩,CsAtS_mono (fun y hy=>⟨by have:=hy.1;omega,hy.2⟩) (fun y o u hy hu=>fin_cells _ _ _ _ _ _ _ y o u (by have:=hy.1;omega) hu) bb hbb acc o hcs⟩
     ·
      have e41:((y.toNat:Int) != 41)=true:=by simp;omega
      have j1:(1:Int)≤(rest.size:Int):=by omega
      have hw64:wrap64 (d:Int)=(d:Int):=by have:=HDD.out;unfold wrap64;omega
      have hsp2:=HSPC.out;rw [loopR,if_neg (show ¬ rest.data.toList.head? = some (41:UInt8) from fun h=>h41 ((head_is HY2.out (n:=41) (by decide)).1 h))] at hsp2;have hcall:=HIH2.out (rest.extract 1 rest.size) wr (by rw [ByteArray.size_extract];have:=HN1.out.2.2.1;omega) (HOK.out.below HSTR.out.1);obtain ⟨RR,hRR⟩:∃ R,readR d (rest.extract 1 rest.size)=R:=⟨_,rfl⟩;rw [hRR] at hcall hsp2;have HCALL:=Lh_ hcall;have HSP2:=Lh_ hsp2;have HRR:=Lh_ hRR;clear hcall hsp2 hRR h41 HSPC;go_wp2_with fail;try rw [hw64]
      refine HCALL.out.mono ?_;rintro e' w5 ⟨hb5,hor⟩;clear e41 hw64 j1;clear hy;clear hn2 hn4;try clear e0 e0'
      try clear hlen1
      try clear i1
      try clear hN2
      try clear hlen2
      have HST5:=Lh_ (HSTR.out.below hb5);have HOWN5:=Lh_ (HOWN.out.below hb5);have HB5:=Lh_ hb5;rcases hor with ⟨c2,cs2,more,rfl,rfl,hnew⟩ | ⟨rfl,kk2,i2,l2,s2,t2,e2,A2,m2,cp2,rfl⟩
      ·
       skip
       have hlen:=read_len _ _ _ _ HRR.out;rw [ByteArray.size_extract] at hlen;have hpos2:=nodesC_pos c2;have hsp3:=HSP2.out;simp only at hsp3;obtain ⟨kk2,i2,l2,s2,t2,e2,xs2⟩:=c2;obtain ⟨A3,c3',rfl⟩:=CRdS_cells hnew;simp only [contCells];have HNEW:=Lh_ hnew;have HLEN:=Lh_ (And.intro hlen hpos2);have HSP3:=Lh_ hsp3;clear hnew hlen hpos2 hsp3 hb5 HSP2;go_upto_region 30 with fail
       obtain ⟨w6,hw6⟩:∃ w6,w5.alloc (.cells #[.int .i64 kk2,.string i2,.string l2,.int .i64 s2,.int .i64 t2,.int .i64 e2,.slice A3 xs2.length c3'] 72)=w6:=⟨_,rfl⟩;obtain ⟨hb6,hg6,hbox6⟩:=box7 hw6;rw [hw6];have HST6:=Lh_ (HST5.out.below hb6);have HOWN6:=Lh_ (HOWN5.out.below hb6);have HB6:=Lh_ hb6;have HG6:=Lh_ hg6;have hnew6:CRdS w6 (fun x=>wr.heap.size≤x∧x<w5.heap.size) (.mk kk2 i2 l2 s2 t2 e2 xs2) (contCells kk2 i2 l2 s2 t2 e2 A3 xs2.length c3'):=CRdS_mono (fun _ h=>h) (fun y o u hy hu=>(hb6.cell (p:=⟨y,o,none⟩) (by exact hy.2)).trans hu) _ _ HNEW.out;have HNEW6:=Lh_ hnew6;obtain ⟨b0,b1,b2,b3,b4,b5,b6⟩:=hbox6.zero;clear hw6 hb6 hg6 hbox6 hnew6 HST5 HOWN5 HNEW;by_cases hm0:more.size=0
       ·
        have hme:more.toList=[]:=by rw [of_list (List.eq_nil_of_length_eq_zero (show more.data.toList.length=0 by rw [ba_size];exact hm0))];decide +kernel
        have hsp4:=HSP3.out;rw [if_pos hm0] at hsp4;have hnone:readR (d+1) s=none:=by rw [HLOOP.out,← hsp4];rfl
        have HNN:=Lh_ hnone;clear hnone hsp4 hm0 b0 b1 b2 b3 b4 b5 b6;obtain ⟨A5,c5,rfl,-,-,-⟩:=HOWN6.out.cs;obtain ⟨x0,x1,x2,x3,x4,x5,x6⟩:=s7_ HST6.out.2.1.1;have xf:=HST6.out.2.1.2.1;obtain ⟨y0,y1,y2,y3,y4,y5,y6⟩:=s7_ HST6.out.2.2.1.1;have yf:=HST6.out.2.2.1.2.1;have HNONE:=Lh_ (show readR (d+1) s=none by exact HNN.out);go_wp2;exact bodyPost_ret (v:=.tuple #[.agg #[.int .i64 4,.string p1,.string ByteArray.empty,.int .i64 (nS),.int .i64 (nT),.int .i64 0,.slice A5 acc.length c5],.string ⟨#[]⟩,.bool false]) (by simp [results,Tryz.results111,go_sem,y0,y1,y2,y3,y4,y5,y6]) rfl (fail_post HNONE.out HST6.out.1 (Nat.le_refl _) _ _ _ _ _ _ _ _ _)
       have hme:¬ more.toList=[]:=fun h=>hm0 (by rw [(empty_iff more).1 h];rfl)
       have hme2:more.toList.isEmpty=false:=by simpa using hme
       have hsp4:=HSP3.out;rw [if_neg hm0] at hsp4;have HSP4:=Lh_ hsp4;clear hsp4;obtain ⟨w7,hw7⟩:∃ w7,w6.alloc (.cells #[.int .i64 kk2,.string i2,.string l2,.int .i64 s2,.int .i64 t2,.int .i64 e2,.slice A3 xs2.length c3'] 72)=w7:=⟨_,rfl⟩;obtain ⟨hb7,hg7,-⟩:=box7 hw7;have hnews:=cell7_new w6 72 kk2 i2 l2 s2 t2 e2 A3 xs2.length c3';rw [hw7] at hnews;have HST7:=Lh_ (HST6.out.below hb7);obtain ⟨css,o1,o2,o3'⟩:=HOWN6.out.below hb7;have hlenx:acc.length≤1000:=by have:=nodesL_length acc;have:=HN1.out.2.1;omega
       have HO1:=Lh_ o1;have HO2:=Lh_ o2;have HO3:=Lh_ o3';have HNEWS:=Lh_ hnews;have HLENX:=Lh_ hlenx;have HG7:=Lh_ hg7;have HB7:=Lh_ hb7;clear o2 o3' hnews hlenx hg7 hb7;have hx7:CRdS w7 (fun y=>ws.heap.size≤y∧y<w7.heap.size∧v.ownBlock≠some y) (.mk kk2 i2 l2 s2 t2 e2 xs2) (contCells kk2 i2 l2 s2 t2 e2 A3 xs2.length c3') :=
        CRdS_mono (fun y hy=>⟨by have:=hy.1;have:=HN1.out.2.2.2;omega,by have:=hy.2;have:=HB6.out.size;have:=HG7.out;omega,fun h=>by have h0:=(HOWN.out.lt y h).2;have:=hy.1;omega⟩) (fun y o u hy hu=>(HB7.out.cell (p:=⟨y,o,none⟩) (by have:=hy.2;have:=HB6.out.size;show y<w6.heap.size;omega)).trans hu) _ _ HNEW6.out
       have HX7:=Lh_ hx7;clear hx7;have u6:=HST6.out.2.1.1 6 _ rfl;go_wp2_with (at_builtin;go_must (refine wpList_append_own_at _ rfl _ _ 70 rfl ws.heap.size 72 i0 _ 7 88 Tryz.underlying70 HI0.out HZ0.out HZ1.out HZ2.out rfl (by decide) _ _ _ rfl o1 ⟨w6.heap.size,0,none⟩ 1 1 _ rfl rfl HNEWS.out (CRdS_one HNEW6.out) (by have:=HLENX.out;unfold maxLen;omega) (by have:=HLENX.out;omega) (by have:=HG7.out;have:=HN1.out.2.2.2;have:=HB5.out.size;have:=HB6.out.size;omega) ?_);intro v' w8 hown' hgrow _ hat;have HROW:=Lh_ (show ∀ q,v.ownBlock=some q→ws.heap.size≤q from fun q hq=>(HOWN.out.lt q hq).1);have hown8:=OwnsC.app (w:=w7) HO1.out HO2.out HO3.out HX7.out hown' hgrow (fun q hq=>Or.elim hat (fun h=>.inl (h.symm.trans hq)) (fun h=>.inr (by rw [hq] at h;have:=Option.some.inj h;omega)));obtain ⟨A8,c8,rfl,-,-,-⟩:=hown8.cs;rw [show (acc ++ [Cont.mk kk2 i2 l2 s2 t2 e2 xs2]).length=acc.length+1 by simp] at hown8 ⊢;have hst8:=HST7.out.row hgrow (fun q hq=>by have:=HROW.out q hq;have:=HWS.out;omega);have HST8:=Lh_ hst8;have HOWN8:=Lh_ hown8;have HS8:=Lh_ (show w7.heap.size≤w8.heap.size from hgrow.size);have z6:=hst8.2.1.1 6 _ rfl;have zf:=hst8.2.1.2.1;clear hst8 hown8 hown' hgrow hat u6 o1 hw7 b0 b1 b2 b3 b4 b5 b6);have hst9:=HST8.out.set_ (j:=6) (by simp) (.slice A8 (acc.length+1) c8);simp only [List.set_cons_zero,List.set_cons_succ] at hst9;have hown9:=HOWN8.out.grownb (grown_one w8 w2.heap.size 6 (.slice A8 (acc.length+1) c8)) (fun y hy e=>by have:=HWS.out;omega) (by have:=HWS.out;omega);have hsz8:w7.heap.size≤w8.heap.size:=HS8.out;have hrel9:RdRel w w.heap.size w2.heap.size ws.heap.size 72 4 p1 (nS) (nT) (0) (readR d) spec more (w8.setCell ⟨w2.heap.size,6,none⟩ (.slice A8 (acc.length+1) c8)):=by
        obtain ⟨lq1,lq2⟩:=HLEN.out;obtain ⟨m1,m2,m3,m4⟩:=HN1.out;refine ⟨_,acc ++ [.mk kk2 i2 l2 s2 t2 e2 xs2],n,hst9,hown9,HSP4.out,by omega,by omega,?_,by omega,?_⟩
        · rw [nodesL_app];omega
        ·
         have e1:=HB5.out.size;have e2:=HB6.out.size;have e3:=HG7.out
         show _≤(w8.setCell _ _).heap.size
         simp;omega
       have hmeas:more.size<rest.size:=by have:=HLEN.out;omega
       have HREL9:=Lh_ hrel9;have HMEAS:=Lh_ hmeas;clear hrel9 hmeas hown9 hst9 hsz8 z6 zf;go_roundw
       case rel=>exact ⟨more,rfl,HREL9⟩
       case measure=>exact HMEAS.out
      ·
       skip
       have hsp3:=HSP2.out;simp only at hsp3;have hnone:readR (d+1) s=none:=by rw [HLOOP.out,← hsp3];rfl
       have HNN:=Lh_ hnone;clear hnone hsp3 hb5 HSP2;go_upto_region 30 with fail
       obtain ⟨w6,hw6⟩:∃ w6,w5.alloc (.cells #[.int .i64 kk2,.string i2,.string l2,.int .i64 s2,.int .i64 t2,.int .i64 e2,.slice A2 m2 cp2] 72)=w6:=⟨_,rfl⟩;obtain ⟨hb6,hg6,-⟩:=box7 hw6;rw [hw6];have HST6:=Lh_ (HST5.out.below hb6);have HOWN6:=Lh_ (HOWN5.out.below hb6);clear hw6 hb6 hg6 HST5 HOWN5;obtain ⟨A5,c5,rfl,-,-,-⟩:=HOWN6.out.cs;obtain ⟨x0,x1,x2,x3,x4,x5,x6⟩:=s7_ HST6.out.2.1.1;have xf:=HST6.out.2.1.2.1;obtain ⟨y0,y1,y2,y3,y4,y5,y6⟩:=s7_ HST6.out.2.2.1.1;have yf:=HST6.out.2.2.1.2.1;have HNONE:=Lh_ (show readR (d+1) s=none by exact HNN.out);go_wp2;exact bodyPost_ret (v:=.tuple #[.agg #[.int .i64 4,.string p1,.string ByteArray.empty,.int .i64 (nS),.int .i64 (nT),.int .i64 0,.slice A5 acc.length c5],.string ⟨#[]⟩,.bool false]) (by simp [results,Tryz.results111,go_sem,y0,y1,y2,y3,y4,y5,y6]) rfl (fail_post HNONE.out HST6.out.1 (Nat.le_refl _) _ _ _ _ _ _ _ _ _)
   ·
    have hMb:((M:Int) == 2)=false:=beq_eq_false_iff_ne.2 (by omega)
    obtain ⟨x0,x1,x2,x3,x4,x5,x6⟩:=s7_ HST5.out.2.1.1;have xf:=HST5.out.2.1.2.1;obtain ⟨y0,y1,y2,y3,y4,y5,y6⟩:=s7_ HST5.out.2.2.1.1;have yf:=HST5.out.2.2.1.2.1;have HNONE:=Lh_ (show readR (d+1) s=none by rw [HRS.out];exact readS_none (by rw [HH.out,HPP.out];exact headP_none3 (by rw [HQpv.out];decide) (fun h=>absurd (HQpv.out.symm.trans h.1) (by decide)) (fun h=>hM3 (by rw [← HM.out,← HSL.out];exact h.2))));go_wp2;exact bodyPost_ret (v:=.tuple #[.agg #[.int .i64 0,.string p1,.string ByteArray.empty,.int .i64 0,.int .i64 0,.int .i64 0,.slice none 0 0],.string ⟨#[]⟩,.bool false]) (by simp [results,Tryz.results111,go_sem,y0,y1,y2,y3,y4,y5,y6]) rfl (fail_post HNONE.out HST5.out.1 (Nat.le_refl _) _ _ _ _ _ _ _ _ _)
  have HNpv:=Lh_ hqpv;clear hqpv;by_cases hqcrypt:p0=cryptN
  ·
   skip
   have HQcrypt:=Lh_ hqcrypt;clear hqcrypt;have efs:(p0.toList == [102,115])=false:=by rw [HQcrypt.out];decide +kernel
   have eraid:(p0.toList == [114,97,105,100])=false:=by rw [HQcrypt.out];decide +kernel
   have ecrypt:(p0.toList == [99,114,121,112,116])=true:=by rw [HQcrypt.out];decide +kernel
   have epv:(p0.toList == [112,118])=false:=by rw [HQcrypt.out];decide +kernel
   have etable:(p0.toList == [116,97,98,108,101])=false:=by rw [HQcrypt.out];decide +kernel
   obtain ⟨x0,x1,x2,x3,x4,x5,x6⟩:=s7_ HST5.out.2.1.1;have xf:=HST5.out.2.1.2.1;obtain ⟨y0,y1,y2,y3,y4,y5,y6⟩:=s7_ HST5.out.2.2.1.1;have yf:=HST5.out.2.2.1.2.1;have HNONE:=Lh_ (show readR (d+1) s=none by rw [HRS.out];exact readS_none (by rw [HH.out,HPP.out];exact headP_none3 (by rw [HQcrypt.out];decide) (fun h=>absurd (HQcrypt.out.symm.trans h.1) (by decide)) (fun h=>absurd (HQcrypt.out.symm.trans h.1) (by decide))));go_wp2;exact bodyPost_ret (v:=.tuple #[.agg #[.int .i64 0,.string p1,.string ByteArray.empty,.int .i64 0,.int .i64 0,.int .i64 0,.slice none 0 0],.string ⟨#[]⟩,.bool false]) (by simp [results,Tryz.results111,go_sem,y0,y1,y2,y3,y4,y5,y6]) rfl (fail_post HNONE.out HST5.out.1 (Nat.le_refl _) _ _ _ _ _ _ _ _ _)
  have HNcrypt:=Lh_ hqcrypt;clear hqcrypt;by_cases hqtable:p0=tableN
  ·
   skip
   have HQtable:=Lh_ hqtable;clear hqtable;have efs:(p0.toList == [102,115])=false:=by rw [HQtable.out];decide +kernel
   have eraid:(p0.toList == [114,97,105,100])=false:=by rw [HQtable.out];decide +kernel
   have ecrypt:(p0.toList == [99,114,121,112,116])=false:=by rw [HQtable.out];decide +kernel
   have epv:(p0.toList == [112,118])=false:=by rw [HQtable.out];decide +kernel
   have etable:(p0.toList == [116,97,98,108,101])=true:=by rw [HQtable.out];decide +kernel
   obtain ⟨x0,x1,x2,x3,x4,x5,x6⟩:=s7_ HST5.out.2.1.1;have xf:=HST5.out.2.1.2.1;obtain ⟨y0,y1,y2,y3,y4,y5,y6⟩:=s7_ HST5.out.2.2.1.1;have yf:=HST5.out.2.2.1.2.1;have HNONE:=Lh_ (show readR (d+1) s=none by rw [HRS.out];exact readS_none (by rw [HH.out,HPP.out];exact headP_none3 (by rw [HQtable.out];decide) (fun h=>absurd (HQtable.out.symm.trans h.1) (by decide)) (fun h=>absurd (HQtable.out.symm.trans h.1) (by decide))));go_wp2;exact bodyPost_ret (v:=.tuple #[.agg #[.int .i64 0,.string p1,.string ByteArray.empty,.int .i64 0,.int .i64 0,.int .i64 0,.slice none 0 0],.string ⟨#[]⟩,.bool false]) (by simp [results,Tryz.results111,go_sem,y0,y1,y2,y3,y4,y5,y6]) rfl (fail_post HNONE.out HST5.out.1 (Nat.le_refl _) _ _ _ _ _ _ _ _ _)
  have HNtable:=Lh_ hqtable;clear hqtable;have efs:(p0.toList == [102,115])=false:=by rw [show ([102,115]:List UInt8)=(fsN:ByteArray).toList from by decide +kernel,ba_beq];exact decide_eq_false HNfs.out
  have eraid:(p0.toList == [114,97,105,100])=false:=by rw [show ([114,97,105,100]:List UInt8)=(raidN:ByteArray).toList from by decide +kernel,ba_beq];exact decide_eq_false HNraid.out
  have ecrypt:(p0.toList == [99,114,121,112,116])=false:=by rw [show ([99,114,121,112,116]:List UInt8)=(cryptN:ByteArray).toList from by decide +kernel,ba_beq];exact decide_eq_false HNcrypt.out
  have epv:(p0.toList == [112,118])=false:=by rw [show ([112,118]:List UInt8)=(pvN:ByteArray).toList from by decide +kernel,ba_beq];exact decide_eq_false HNpv.out
  have etable:(p0.toList == [116,97,98,108,101])=false:=by rw [show ([116,97,98,108,101]:List UInt8)=(tableN:ByteArray).toList from by decide +kernel,ba_beq];exact decide_eq_false HNtable.out
  obtain ⟨x0,x1,x2,x3,x4,x5,x6⟩:=s7_ HST5.out.2.1.1;have xf:=HST5.out.2.1.2.1;obtain ⟨y0,y1,y2,y3,y4,y5,y6⟩:=s7_ HST5.out.2.2.1.1;have yf:=HST5.out.2.2.1.2.1;have HNONE:=Lh_ (show readR (d+1) s=none by rw [HRS.out];exact readS_none (by rw [HH.out,HPP.out];exact headP_none3 HNfs.out (fun h=>HNraid.out h.1) (fun h=>HNpv.out h.1)));go_wp2;exact bodyPost_ret (v:=.tuple #[.agg #[.int .i64 0,.string p1,.string ByteArray.empty,.int .i64 0,.int .i64 0,.int .i64 0,.slice none 0 0],.string ⟨#[]⟩,.bool false]) (by simp [results,Tryz.results111,go_sem,y0,y1,y2,y3,y4,y5,y6]) rfl (fail_post HNONE.out HST5.out.1 (Nat.le_refl _) _ _ _ _ _ _ _ _ _)
 ·
  have hQ:Q=[]:=by
   have h:=HN.out;match Q,h with
   | [],_=>rfl
   | _ :: _,h=>simp at h
  subst hQ;have hP0:=HPB4.out.1 0 _ rfl;by_cases hqcrypt:p0=cryptN
  ·
   skip
   have HQcrypt:=Lh_ hqcrypt;clear hqcrypt;have efs:(p0.toList == [102,115])=false:=by rw [HQcrypt.out];decide +kernel
   have eraid:(p0.toList == [114,97,105,100])=false:=by rw [HQcrypt.out];decide +kernel
   have ecrypt:(p0.toList == [99,114,121,112,116])=true:=by rw [HQcrypt.out];decide +kernel
   have epv:(p0.toList == [112,118])=false:=by rw [HQcrypt.out];decide +kernel
   have etable:(p0.toList == [116,97,98,108,101])=false:=by rw [HQcrypt.out];decide +kernel
   obtain ⟨x0,x1,x2,x3,x4,x5,x6⟩:=s7_ HST4.out.2.1.1;have xf:=HST4.out.2.1.2.1;go_upto_region 26 with fail
   clear x0 x1 x2 x3 x4 x5 x6 xf;clear hP0 efs eraid ecrypt epv etable;have HST5:=Lh_ (HST4.out.set_ (j:=0) (by simp) (.int .i64 3));simp only [List.set_cons_zero,List.set_cons_succ] at HST5;have HHD:=Lh_ (headP_crypt (p1:=p1) HQcrypt.out);have BS:=Lh_ (show okInt (0) by unfold okInt;omega);have BT:=Lh_ (show okInt (0) by unfold okInt;omega);have BL:=Lh_ (show okInt (0) by unfold okInt;omega);obtain ⟨x0,x1,x2,x3,x4,x5,x6⟩:=s7_ HST5.out.2.1.1;have xf:=HST5.out.2.1.2.1;have HHEAD:=Lh_ (show headP (partsB 58 (s.extract 0 (untilN s brE)))=some (.mk 3 p1 ⟨#[]⟩ 0 0 0 []) by rw [HH.out,HPP.out];exact HHD.out);obtain ⟨ws,hws⟩:∃ ws,(w4.setCell ⟨w2.heap.size,0,none⟩ (.int .i64 3))=ws:=⟨_,rfl⟩;rw [hws] at HST5 ⊢;clear hws;by_cases hr0:R0.size=0
   ·
    have hre:R0.toList=[]:=by rw [of_list (List.eq_nil_of_length_eq_zero (show R0.data.toList.length=0 by rw [ba_size];exact hr0))];decide +kernel
    have hnb:(s.extract (untilN s brE) s.size).data.toList.head?≠some 40:=by rw [HR0.out,of_list (List.eq_nil_of_length_eq_zero (show R0.data.toList.length=0 by rw [ba_size];exact hr0))];decide
    have HNB:=Lh_ hnb;clear hnb hr0;obtain ⟨x0,x1,x2,x3,x4,x5,x6⟩:=s7_ HST5.out.2.1.1;have xf:=HST5.out.2.1.2.1;obtain ⟨y0,y1,y2,y3,y4,y5,y6⟩:=s7_ HST5.out.2.2.1.1;have yf:=HST5.out.2.2.1.2.1;have HNONE:=Lh_ (show readR (d+1) s=none by rw [HRS.out];exact readS_nobr HHEAD.out (by simp [kindOf]) HNB.out);go_wp2;exact bodyPost_ret (v:=.tuple #[.agg #[.int .i64 3,.string p1,.string ByteArray.empty,.int .i64 0,.int .i64 0,.int .i64 0,.slice none 0 0],.string ⟨#[]⟩,.bool false]) (by simp [results,Tryz.results111,go_sem,y0,y1,y2,y3,y4,y5,y6]) rfl (fail_post HNONE.out HST5.out.1 (Nat.le_refl _) _ _ _ _ _ _ _ _ _)
   have hrp:0<R0.size:=by omega
   have hre:¬ R0.toList=[]:=fun h=>hr0 (by rw [(empty_iff R0).1 h];rfl)
   have hre2:R0.toList.isEmpty=false:=by simpa using hre
   obtain ⟨y,hy⟩:∃ y:UInt8,R0[0]'hrp=y:=⟨_,rfl⟩;have hyl:R0.data.toList[0]? = some y:=by rw [← hy];exact Lib.data_getElem? R0 0 hrp
   have HY:=Lh_ hyl;clear hyl;by_cases h40:y.toNat=40
   case neg =>
    have e40:((y.toNat:Int) != 40)=true:=by simp;omega
    have hnb:(s.extract (untilN s brE) s.size).data.toList.head?≠some 40:=by rw [HR0.out];exact fun h=>h40 ((head_is HY.out (n:=40) (by decide)).1 h)
    have HNB:=Lh_ hnb;clear hnb h40 hr0;obtain ⟨x0,x1,x2,x3,x4,x5,x6⟩:=s7_ HST5.out.2.1.1;have xf:=HST5.out.2.1.2.1;obtain ⟨y0,y1,y2,y3,y4,y5,y6⟩:=s7_ HST5.out.2.2.1.1;have yf:=HST5.out.2.2.1.2.1;have HNONE:=Lh_ (show readR (d+1) s=none by rw [HRS.out];exact readS_nobr HHEAD.out (by simp [kindOf]) HNB.out);go_wp2;exact bodyPost_ret (v:=.tuple #[.agg #[.int .i64 3,.string p1,.string ByteArray.empty,.int .i64 0,.int .i64 0,.int .i64 0,.slice none 0 0],.string ⟨#[]⟩,.bool false]) (by simp [results,Tryz.results111,go_sem,y0,y1,y2,y3,y4,y5,y6]) rfl (fail_post HNONE.out HST5.out.1 (Nat.le_refl _) _ _ _ _ _ _ _ _ _)
   have e40:((y.toNat:Int) != 40)=false:=by simp;omega
   have hbr:(s.extract (untilN s brE) s.size).data.toList.head? = some 40:=by rw [HR0.out];exact (head_is HY.out (n:=40) (by decide)).2 h40
   have hloop:readR (d+1) s=_:=HRS.out.trans (readS_loop HHEAD.out (by simp [kindOf]) hbr);rw [HR0.out] at hloop;obtain ⟨spec,hspec⟩:∃ sp,loopR (readR d) R0.size R0 []=sp:=⟨_,rfl⟩;rw [hspec] at hloop;have hrel0:RdRel w w.heap.size w2.heap.size ws.heap.size 72 3 p1 (0) (0) (0) (readR d) spec R0 ws:=by
    refine ⟨.slice none 0 0,[],R0.size,HST5.out,OwnsC.nil_ _ _ _ _,hspec,Nat.le_refl _,hrp,?_,?_,Nat.le_refl _⟩
    · rw [nodesL];have:=HRSZ.out;omega
    · have:=HRSZ.out;omega
   have HREL0:=Lh_ hrel0;have HLOOP:=Lh_ hloop;have HWS:=Lh_ (show w2.heap.size<ws.heap.size by exact HST5.out.2.1.2.2);clear hrel0 hloop hspec h40 hbr hr0;go_wp2_with fail;clear e40 hre hre2 hy;go_loopw [8] (fun v wr=>∃ rest:ByteArray,v=.string rest∧Hid (RdRel w w.heap.size w2.heap.size ws.heap.size 72 3 p1 (0) (0) (0) (readR d) spec rest wr)) (fun v _=>strSize v)
   case atStart=>exact ⟨R0,rfl,HREL0⟩
   case round =>
    obtain ⟨rest,rfl,hq⟩:=hrel;obtain ⟨v,acc,n,hst,hown,hsp,hn1,hn2,hn3,hn4,hn5⟩:=hq.out;clear hq HREL0;obtain ⟨n,rfl⟩:∃ g,n=g+1:=⟨n - 1,by omega⟩;obtain ⟨y,hy⟩:∃ y:UInt8,rest[0]'hn2=y:=⟨_,rfl⟩;have hyl:rest.data.toList[0]? = some y:=by rw [← hy];exact Lib.data_getElem? rest 0 hn2
    have HY2:=Lh_ hyl;have HSTR:=Lh_ hst;have HOWN:=Lh_ hown;have HSPC:=Lh_ hsp;have HN1:=Lh_ (And.intro hn1 (And.intro hn3 (And.intro hn4 hn5)));clear hyl hst hown hsp hn1 hn3 hn5;by_cases h41:y.toNat=41
    ·
     have e41:((y.toNat:Int) != 41)=false:=by simp;omega
     have hsp2:=HSPC.out;rw [loopR,if_pos (show rest.data.toList.head? = some (41:UInt8) from (head_is HY2.out (n:=41) (by decide)).2 h41)] at hsp2;have hfin:readR (d+1) s=some (.mk 3 p1 ⟨#[]⟩ (0) (0) (0) acc,rest.extract 1 rest.size):=by rw [HLOOP.out,← hsp2];rfl
     have HFIN:=Lh_ hfin;clear hfin hsp2 h41;obtain ⟨A5,c5,rfl,hc51,hc52,hc53⟩:=HOWN.out.cs;have HC51:=Lh_ hc51;have HC52:=Lh_ hc52;have HC53:=Lh_ hc53;clear hc51 hc52 hc53;have j1:(1:Int)≤(rest.size:Int):=by omega
     go_wp2_with fail;refine wp_region_held_drew (S:=fun w'=>BoxL w' w2.heap.size [.int .i64 3,.string p1,.string ByteArray.empty,.int .i64 0,.int .i64 0,.int .i64 0,.slice A5 acc.length c5]) (by kernel_rfl) HSTR.out.2.1.drew (fun hS0=>?_);refine tk1 0 175 (.agg #[.int .i64 3,.string p1,.string ByteArray.empty,.int .i64 0,.int .i64 0,.int .i64 0,.slice A5 acc.length c5]) rfl (fun w' hS=>by (obtain ⟨x0,x1,x2,x3,x4,x5,x6⟩:=s7_ hS.1;go_simp)) hS0 ?_;try simp only [Act.put,sA_,sB_,sC_]
     refine tk1 1 176 (.string rest) rfl (fun w' hS=>by go_simp) hS0 ?_;try simp only [Act.put,sA_,sB_,sC_]
     refine tk1 2 177 (.string (rest.extract 1 rest.size)) rfl (fun w' hS=>by go_simp) hS0 ?_;try simp only [Act.put,sA_,sB_,sC_]
     refine rd1 3 (o:=⟨none,.store _ _ _,_,_,_,_⟩) rfl (fun K hK=>?_);obtain ⟨y0,y1,y2,y3,y4,y5,y6⟩:=s7_ HSTR.out.2.2.1.1;have yf:=HSTR.out.2.2.1.2.1;go_simp;have hne:w.heap.size≠w2.heap.size:=by have:=HSTR.out.2.2.2;omega
     refine hK.out _ _ (((((((HSTR.out.2.1.far hne _).far hne _).far hne _).far hne _).far hne _).far hne _).far hne _).drew (fun _=>?_);clear hK K hS0;try simp only [Act.put,sA_,sB_,sC_]
     refine tk1 4 5 (.string (rest.extract 1 rest.size)) rfl (fun w' hS=>by go_simp) (by assumption) ?_;try simp only [Act.put,sA_,sB_,sC_]
     refine tk1 5 6 (.bool true) rfl (fun w' hS=>by go_simp) (by assumption) ?_;try simp only [Act.put,sA_,sB_,sC_]
     refine wpAnyH_done (by kernel_rfl) ?_ _;go_wp2_with fail;refine bodyPost_ret (v:=.tuple #[.agg #[.int .i64 3,.string p1,.string ByteArray.empty,.int .i64 0,.int .i64 0,.int .i64 0,.slice A5 acc.length c5],.string (rest.extract 1 rest.size),.bool true]) (by simp [results,Tryz.results111,go_sem,y0,y1,y2,y3,y4,y5,y6]) rfl ⟨below7d HSTR.out.1 (Nat.le_refl _) _ _ _ _ _ _ _,.inl ⟨_,contCells 3 p1 ByteArray.empty (0) (0) (0) A5 acc.length c5,_,HFIN.out,rfl,?_⟩⟩;refine NewC.drew ?_;unfold NewC;rw [CRdS,fin_size];refine ⟨A5,c5,rfl,⟨by unfold okInt;omega,by unfold maxLen;have:=HP1S.out;omega,by unfold maxLen;decide,BS.out,BT.out,BL.out⟩,HC51.out,HC52.out,fun hn=>?_⟩;obtain ⟨bb,o,hA,hbb,hcs⟩:=HC53.out hn;have hs1:=HWS.out;have hs2:=HSTR.out.2.2.2;exact ⟨bb,o,hA,⟨by omega,hbb.2⟩,CsAtS_mono (fun y hy=>⟨by have:=hy.1;omega,hy.2⟩) (fun y o u hy hu=>fin_cells _ _ _ _ _ _ _ y o u (by have:=hy.1;omega) hu) bb hbb acc o hcs⟩
    ·
     have e41:((y.toNat:Int) != 41)=true:=by simp;omega
     have j1:(1:Int)≤(rest.size:Int):=by omega
     have hw64:wrap64 (d:Int)=(d:Int):=by have:=HDD.out;unfold wrap64;omega
     have hsp2:=HSPC.out;rw [loopR,if_neg (show ¬ rest.data.toList.head? = some (41:UInt8) from fun h=>h41 ((head_is HY2.out (n:=41) (by decide)).1 h))] at hsp2;have hcall:=HIH2.out (rest.extract 1 rest.size) wr (by rw [ByteArray.size_extract];have:=HN1.out.2.2.1;omega) (HOK.out.below HSTR.out.1);obtain ⟨RR,hRR⟩:∃ R,readR d (rest.extract 1 rest.size)=R:=⟨_,rfl⟩;rw [hRR] at hcall hsp2;have HCALL:=Lh_ hcall;have HSP2:=Lh_ hsp2;have HRR:=Lh_ hRR;clear hcall hsp2 hRR h41 HSPC;go_wp2_with fail;try rw [hw64]
     refine HCALL.out.mono ?_;rintro e' w5 ⟨hb5,hor⟩;clear e41 hw64 j1;clear hy;clear hn2 hn4;try clear e0 e0'
     try clear hlen1
     try clear i1
     try clear hN2
     try clear hlen2
     have HST5:=Lh_ (HSTR.out.below hb5);have HOWN5:=Lh_ (HOWN.out.below hb5);have HB5:=Lh_ hb5;rcases hor with ⟨c2,cs2,more,rfl,rfl,hnew⟩ | ⟨rfl,kk2,i2,l2,s2,t2,e2,A2,m2,cp2,rfl⟩
     ·
      skip
      have hlen:=read_len _ _ _ _ HRR.out;rw [ByteArray.size_extract] at hlen;have hpos2:=nodesC_pos c2;have hsp3:=HSP2.out;simp only at hsp3;obtain ⟨kk2,i2,l2,s2,t2,e2,xs2⟩:=c2;obtain ⟨A3,c3',rfl⟩:=CRdS_cells hnew;simp only [contCells];have HNEW:=Lh_ hnew;have HLEN:=Lh_ (And.intro hlen hpos2);have HSP3:=Lh_ hsp3;clear hnew hlen hpos2 hsp3 hb5 HSP2;go_upto_region 30 with fail
      obtain ⟨w6,hw6⟩:∃ w6,w5.alloc (.cells #[.int .i64 kk2,.string i2,.string l2,.int .i64 s2,.int .i64 t2,.int .i64 e2,.slice A3 xs2.length c3'] 72)=w6:=⟨_,rfl⟩;obtain ⟨hb6,hg6,hbox6⟩:=box7 hw6;rw [hw6];have HST6:=Lh_ (HST5.out.below hb6);have HOWN6:=Lh_ (HOWN5.out.below hb6);have HB6:=Lh_ hb6;have HG6:=Lh_ hg6;have hnew6:CRdS w6 (fun x=>wr.heap.size≤x∧x<w5.heap.size) (.mk kk2 i2 l2 s2 t2 e2 xs2) (contCells kk2 i2 l2 s2 t2 e2 A3 xs2.length c3'):=CRdS_mono (fun _ h=>h) (fun y o u hy hu=>(hb6.cell (p:=⟨y,o,none⟩) (by exact hy.2)).trans hu) _ _ HNEW.out;have HNEW6:=Lh_ hnew6;obtain ⟨b0,b1,b2,b3,b4,b5,b6⟩:=hbox6.zero;clear hw6 hb6 hg6 hbox6 hnew6 HST5 HOWN5 HNEW;by_cases hm0:more.size=0
      ·
       have hme:more.toList=[]:=by rw [of_list (List.eq_nil_of_length_eq_zero (show more.data.toList.length=0 by rw [ba_size];exact hm0))];decide +kernel
       have hsp4:=HSP3.out;rw [if_pos hm0] at hsp4;have hnone:readR (d+1) s=none:=by rw [HLOOP.out,← hsp4];rfl
       have HNN:=Lh_ hnone;clear hnone hsp4 hm0 b0 b1 b2 b3 b4 b5 b6;obtain ⟨A5,c5,rfl,-,-,-⟩:=HOWN6.out.cs;obtain ⟨x0,x1,x2,x3,x4,x5,x6⟩:=s7_ HST6.out.2.1.1;have xf:=HST6.out.2.1.2.1;obtain ⟨y0,y1,y2,y3,y4,y5,y6⟩:=s7_ HST6.out.2.2.1.1;have yf:=HST6.out.2.2.1.2.1;have HNONE:=Lh_ (show readR (d+1) s=none by exact HNN.out);go_wp2;exact bodyPost_ret (v:=.tuple #[.agg #[.int .i64 3,.string p1,.string ByteArray.empty,.int .i64 0,.int .i64 0,.int .i64 0,.slice A5 acc.length c5],.string ⟨#[]⟩,.bool false]) (by simp [results,Tryz.results111,go_sem,y0,y1,y2,y3,y4,y5,y6]) rfl (fail_post HNONE.out HST6.out.1 (Nat.le_refl _) _ _ _ _ _ _ _ _ _)
      have hme:¬ more.toList=[]:=fun h=>hm0 (by rw [(empty_iff more).1 h];rfl)
      have hme2:more.toList.isEmpty=false:=by simpa using hme
      have hsp4:=HSP3.out;rw [if_neg hm0] at hsp4;have HSP4:=Lh_ hsp4;clear hsp4;obtain ⟨w7,hw7⟩:∃ w7,w6.alloc (.cells #[.int .i64 kk2,.string i2,.string l2,.int .i64 s2,.int .i64 t2,.int .i64 e2,.slice A3 xs2.length c3'] 72)=w7:=⟨_,rfl⟩;obtain ⟨hb7,hg7,-⟩:=box7 hw7;have hnews:=cell7_new w6 72 kk2 i2 l2 s2 t2 e2 A3 xs2.length c3';rw [hw7] at hnews;have HST7:=Lh_ (HST6.out.below hb7);obtain ⟨css,o1,o2,o3'⟩:=HOWN6.out.below hb7;have hlenx:acc.length≤1000:=by have:=nodesL_length acc;have:=HN1.out.2.1;omega
      have HO1:=Lh_ o1;have HO2:=Lh_ o2;have HO3:=Lh_ o3';have HNEWS:=Lh_ hnews;have HLENX:=Lh_ hlenx;have HG7:=Lh_ hg7;have HB7:=Lh_ hb7;clear o2 o3' hnews hlenx hg7 hb7;have hx7:CRdS w7 (fun y=>ws.heap.size≤y∧y<w7.heap.size∧v.ownBlock≠some y) (.mk kk2 i2 l2 s2 t2 e2 xs2) (contCells kk2 i2 l2 s2 t2 e2 A3 xs2.length c3') :=
       CRdS_mono (fun y hy=>⟨by have:=hy.1;have:=HN1.out.2.2.2;omega,by have:=hy.2;have:=HB6.out.size;have:=HG7.out;omega,fun h=>by have h0:=(HOWN.out.lt y h).2;have:=hy.1;omega⟩) (fun y o u hy hu=>(HB7.out.cell (p:=⟨y,o,none⟩) (by have:=hy.2;have:=HB6.out.size;show y<w6.heap.size;omega)).trans hu) _ _ HNEW6.out
      have HX7:=Lh_ hx7;clear hx7;have u6:=HST6.out.2.1.1 6 _ rfl;go_wp2_with (at_builtin;go_must (refine wpList_append_own_at _ rfl _ _ 70 rfl ws.heap.size 72 i0 _ 7 88 Tryz.underlying70 HI0.out HZ0.out HZ1.out HZ2.out rfl (by decide) _ _ _ rfl o1 ⟨w6.heap.size,0,none⟩ 1 1 _ rfl rfl HNEWS.out (CRdS_one HNEW6.out) (by have:=HLENX.out;unfold maxLen;omega) (by have:=HLENX.out;omega) (by have:=HG7.out;have:=HN1.out.2.2.2;have:=HB5.out.size;have:=HB6.out.size;omega) ?_);intro v' w8 hown' hgrow _ hat;have HROW:=Lh_ (show ∀ q,v.ownBlock=some q→ws.heap.size≤q from fun q hq=>(HOWN.out.lt q hq).1);have hown8:=OwnsC.app (w:=w7) HO1.out HO2.out HO3.out HX7.out hown' hgrow (fun q hq=>Or.elim hat (fun h=>.inl (h.symm.trans hq)) (fun h=>.inr (by rw [hq] at h;have:=Option.some.inj h;omega)));obtain ⟨A8,c8,rfl,-,-,-⟩:=hown8.cs;rw [show (acc ++ [Cont.mk kk2 i2 l2 s2 t2 e2 xs2]).length=acc.length+1 by simp] at hown8 ⊢;have hst8:=HST7.out.row hgrow (fun q hq=>by have:=HROW.out q hq;have:=HWS.out;omega);have HST8:=Lh_ hst8;have HOWN8:=Lh_ hown8;have HS8:=Lh_ (show w7.heap.size≤w8.heap.size from hgrow.size);have z6:=hst8.2.1.1 6 _ rfl;have zf:=hst8.2.1.2.1;clear hst8 hown8 hown' hgrow hat u6 o1 hw7 b0 b1 b2 b3 b4 b5 b6);have hst9:=HST8.out.set_ (j:=6) (by simp) (.slice A8 (acc.length+1) c8);simp only [List.set_cons_zero,List.set_cons_succ] at hst9;have hown9:=HOWN8.out.grownb (grown_one w8 w2.heap.size 6 (.slice A8 (acc.length+1) c8)) (fun y hy e=>by have:=HWS.out;omega) (by have:=HWS.out;omega);have hsz8:w7.heap.size≤w8.heap.size:=HS8.out;have hrel9:RdRel w w.heap.size w2.heap.size ws.heap.size 72 3 p1 (0) (0) (0) (readR d) spec more (w8.setCell ⟨w2.heap.size,6,none⟩ (.slice A8 (acc.length+1) c8)):=by
       obtain ⟨lq1,lq2⟩:=HLEN.out;obtain ⟨m1,m2,m3,m4⟩:=HN1.out;refine ⟨_,acc ++ [.mk kk2 i2 l2 s2 t2 e2 xs2],n,hst9,hown9,HSP4.out,by omega,by omega,?_,by omega,?_⟩
       · rw [nodesL_app];omega
       ·
        have e1:=HB5.out.size;have e2:=HB6.out.size;have e3:=HG7.out
        show _≤(w8.setCell _ _).heap.size
        simp;omega
      have hmeas:more.size<rest.size:=by have:=HLEN.out;omega
      have HREL9:=Lh_ hrel9;have HMEAS:=Lh_ hmeas;clear hrel9 hmeas hown9 hst9 hsz8 z6 zf;go_roundw
      case rel=>exact ⟨more,rfl,HREL9⟩
      case measure=>exact HMEAS.out
     ·
      skip
      have hsp3:=HSP2.out;simp only at hsp3;have hnone:readR (d+1) s=none:=by rw [HLOOP.out,← hsp3];rfl
      have HNN:=Lh_ hnone;clear hnone hsp3 hb5 HSP2;go_upto_region 30 with fail
      obtain ⟨w6,hw6⟩:∃ w6,w5.alloc (.cells #[.int .i64 kk2,.string i2,.string l2,.int .i64 s2,.int .i64 t2,.int .i64 e2,.slice A2 m2 cp2] 72)=w6:=⟨_,rfl⟩;obtain ⟨hb6,hg6,-⟩:=box7 hw6;rw [hw6];have HST6:=Lh_ (HST5.out.below hb6);have HOWN6:=Lh_ (HOWN5.out.below hb6);clear hw6 hb6 hg6 HST5 HOWN5;obtain ⟨A5,c5,rfl,-,-,-⟩:=HOWN6.out.cs;obtain ⟨x0,x1,x2,x3,x4,x5,x6⟩:=s7_ HST6.out.2.1.1;have xf:=HST6.out.2.1.2.1;obtain ⟨y0,y1,y2,y3,y4,y5,y6⟩:=s7_ HST6.out.2.2.1.1;have yf:=HST6.out.2.2.1.2.1;have HNONE:=Lh_ (show readR (d+1) s=none by exact HNN.out);go_wp2;exact bodyPost_ret (v:=.tuple #[.agg #[.int .i64 3,.string p1,.string ByteArray.empty,.int .i64 0,.int .i64 0,.int .i64 0,.slice A5 acc.length c5],.string ⟨#[]⟩,.bool false]) (by simp [results,Tryz.results111,go_sem,y0,y1,y2,y3,y4,y5,y6]) rfl (fail_post HNONE.out HST6.out.1 (Nat.le_refl _) _ _ _ _ _ _ _ _ _)
  have HNcrypt:=Lh_ hqcrypt;clear hqcrypt;by_cases hqtable:p0=tableN
  ·
   skip
   have HQtable:=Lh_ hqtable;clear hqtable;have efs:(p0.toList == [102,115])=false:=by rw [HQtable.out];decide +kernel
   have eraid:(p0.toList == [114,97,105,100])=false:=by rw [HQtable.out];decide +kernel
   have ecrypt:(p0.toList == [99,114,121,112,116])=false:=by rw [HQtable.out];decide +kernel
   have epv:(p0.toList == [112,118])=false:=by rw [HQtable.out];decide +kernel
   have etable:(p0.toList == [116,97,98,108,101])=true:=by rw [HQtable.out];decide +kernel
   obtain ⟨x0,x1,x2,x3,x4,x5,x6⟩:=s7_ HST4.out.2.1.1;have xf:=HST4.out.2.1.2.1;go_upto_region 26 with fail
   clear x0 x1 x2 x3 x4 x5 x6 xf;clear hP0 efs eraid ecrypt epv etable;have HST5:=Lh_ (HST4.out.set_ (j:=0) (by simp) (.int .i64 5));simp only [List.set_cons_zero,List.set_cons_succ] at HST5;have HHD:=Lh_ (headP_table (p1:=p1) HQtable.out);have BS:=Lh_ (show okInt (0) by unfold okInt;omega);have BT:=Lh_ (show okInt (0) by unfold okInt;omega);have BL:=Lh_ (show okInt (0) by unfold okInt;omega);obtain ⟨x0,x1,x2,x3,x4,x5,x6⟩:=s7_ HST5.out.2.1.1;have xf:=HST5.out.2.1.2.1;have HHEAD:=Lh_ (show headP (partsB 58 (s.extract 0 (untilN s brE)))=some (.mk 5 p1 ⟨#[]⟩ 0 0 0 []) by rw [HH.out,HPP.out];exact HHD.out);obtain ⟨ws,hws⟩:∃ ws,(w4.setCell ⟨w2.heap.size,0,none⟩ (.int .i64 5))=ws:=⟨_,rfl⟩;rw [hws] at HST5 ⊢;clear hws;by_cases hr0:R0.size=0
   ·
    have hre:R0.toList=[]:=by rw [of_list (List.eq_nil_of_length_eq_zero (show R0.data.toList.length=0 by rw [ba_size];exact hr0))];decide +kernel
    have hnb:(s.extract (untilN s brE) s.size).data.toList.head?≠some 40:=by rw [HR0.out,of_list (List.eq_nil_of_length_eq_zero (show R0.data.toList.length=0 by rw [ba_size];exact hr0))];decide
    have HNB:=Lh_ hnb;clear hnb hr0;obtain ⟨x0,x1,x2,x3,x4,x5,x6⟩:=s7_ HST5.out.2.1.1;have xf:=HST5.out.2.1.2.1;obtain ⟨y0,y1,y2,y3,y4,y5,y6⟩:=s7_ HST5.out.2.2.1.1;have yf:=HST5.out.2.2.1.2.1;have HNONE:=Lh_ (show readR (d+1) s=none by rw [HRS.out];exact readS_nobr HHEAD.out (by simp [kindOf]) HNB.out);go_wp2;exact bodyPost_ret (v:=.tuple #[.agg #[.int .i64 5,.string p1,.string ByteArray.empty,.int .i64 0,.int .i64 0,.int .i64 0,.slice none 0 0],.string ⟨#[]⟩,.bool false]) (by simp [results,Tryz.results111,go_sem,y0,y1,y2,y3,y4,y5,y6]) rfl (fail_post HNONE.out HST5.out.1 (Nat.le_refl _) _ _ _ _ _ _ _ _ _)
   have hrp:0<R0.size:=by omega
   have hre:¬ R0.toList=[]:=fun h=>hr0 (by rw [(empty_iff R0).1 h];rfl)
   have hre2:R0.toList.isEmpty=false:=by simpa using hre
   obtain ⟨y,hy⟩:∃ y:UInt8,R0[0]'hrp=y:=⟨_,rfl⟩;have hyl:R0.data.toList[0]? = some y:=by rw [← hy];exact Lib.data_getElem? R0 0 hrp
   have HY:=Lh_ hyl;clear hyl;by_cases h40:y.toNat=40
   case neg =>
    have e40:((y.toNat:Int) != 40)=true:=by simp;omega
    have hnb:(s.extract (untilN s brE) s.size).data.toList.head?≠some 40:=by rw [HR0.out];exact fun h=>h40 ((head_is HY.out (n:=40) (by decide)).1 h)
    have HNB:=Lh_ hnb;clear hnb h40 hr0;obtain ⟨x0,x1,x2,x3,x4,x5,x6⟩:=s7_ HST5.out.2.1.1;have xf:=HST5.out.2.1.2.1;obtain ⟨y0,y1,y2,y3,y4,y5,y6⟩:=s7_ HST5.out.2.2.1.1;have yf:=HST5.out.2.2.1.2.1;have HNONE:=Lh_ (show readR (d+1) s=none by rw [HRS.out];exact readS_nobr HHEAD.out (by simp [kindOf]) HNB.out);go_wp2;exact bodyPost_ret (v:=.tuple #[.agg #[.int .i64 5,.string p1,.string ByteArray.empty,.int .i64 0,.int .i64 0,.int .i64 0,.slice none 0 0],.string ⟨#[]⟩,.bool false]) (by simp [results,Tryz.results111,go_sem,y0,y1,y2,y3,y4,y5,y6]) rfl (fail_post HNONE.out HST5.out.1 (Nat.le_refl _) _ _ _ _ _ _ _ _ _)
   have e40:((y.toNat:Int) != 40)=false:=by simp;omega
   have hbr:(s.extract (untilN s brE) s.size).data.toList.head? = some 40:=by rw [HR0.out];exact (head_is HY.out (n:=40) (by decide)).2 h40
   have hloop:readR (d+1) s=_:=HRS.out.trans (readS_loop HHEAD.out (by simp [kindOf]) hbr);rw [HR0.out] at hloop;obtain ⟨spec,hspec⟩:∃ sp,loopR (readR d) R0.size R0 []=sp:=⟨_,rfl⟩;rw [hspec] at hloop;have hrel0:RdRel w w.heap.size w2.heap.size ws.heap.size 72 5 p1 (0) (0) (0) (readR d) spec R0 ws:=by
    refine ⟨.slice none 0 0,[],R0.size,HST5.out,OwnsC.nil_ _ _ _ _,hspec,Nat.le_refl _,hrp,?_,?_,Nat.le_refl _⟩
    · rw [nodesL];have:=HRSZ.out;omega
    · have:=HRSZ.out;omega
   have HREL0:=Lh_ hrel0;have HLOOP:=Lh_ hloop;have HWS:=Lh_ (show w2.heap.size<ws.heap.size by exact HST5.out.2.1.2.2);clear hrel0 hloop hspec h40 hbr hr0;go_wp2_with fail;clear e40 hre hre2 hy;go_loopw [8] (fun v wr=>∃ rest:ByteArray,v=.string rest∧Hid (RdRel w w.heap.size w2.heap.size ws.heap.size 72 5 p1 (0) (0) (0) (readR d) spec rest wr)) (fun v _=>strSize v)
   case atStart=>exact ⟨R0,rfl,HREL0⟩
   case round =>
    obtain ⟨rest,rfl,hq⟩:=hrel;obtain ⟨v,acc,n,hst,hown,hsp,hn1,hn2,hn3,hn4,hn5⟩:=hq.out;clear hq HREL0;obtain ⟨n,rfl⟩:∃ g,n=g+1:=⟨n - 1,by omega⟩;obtain ⟨y,hy⟩:∃ y:UInt8,rest[0]'hn2=y:=⟨_,rfl⟩;have hyl:rest.data.toList[0]? = some y:=by rw [← hy];exact Lib.data_getElem? rest 0 hn2
    have HY2:=Lh_ hyl;have HSTR:=Lh_ hst;have HOWN:=Lh_ hown;have HSPC:=Lh_ hsp;have HN1:=Lh_ (And.intro hn1 (And.intro hn3 (And.intro hn4 hn5)));clear hyl hst hown hsp hn1 hn3 hn5;by_cases h41:y.toNat=41
    ·
     have e41:((y.toNat:Int) != 41)=false:=by simp;omega
     have hsp2:=HSPC.out;rw [loopR,if_pos (show rest.data.toList.head? = some (41:UInt8) from (head_is HY2.out (n:=41) (by decide)).2 h41)] at hsp2;have hfin:readR (d+1) s=some (.mk 5 p1 ⟨#[]⟩ (0) (0) (0) acc,rest.extract 1 rest.size):=by rw [HLOOP.out,← hsp2];rfl
     have HFIN:=Lh_ hfin;clear hfin hsp2 h41;obtain ⟨A5,c5,rfl,hc51,hc52,hc53⟩:=HOWN.out.cs;have HC51:=Lh_ hc51;have HC52:=Lh_ hc52;have HC53:=Lh_ hc53;clear hc51 hc52 hc53;have j1:(1:Int)≤(rest.size:Int):=by omega
     go_wp2_with fail;refine wp_region_held_drew (S:=fun w'=>BoxL w' w2.heap.size [.int .i64 5,.string p1,.string ByteArray.empty,.int .i64 0,.int .i64 0,.int .i64 0,.slice A5 acc.length c5]) (by kernel_rfl) HSTR.out.2.1.drew (fun hS0=>?_);refine tk1 0 175 (.agg #[.int .i64 5,.string p1,.string ByteArray.empty,.int .i64 0,.int .i64 0,.int .i64 0,.slice A5 acc.length c5]) rfl (fun w' hS=>by (obtain ⟨x0,x1,x2,x3,x4,x5,x6⟩:=s7_ hS.1;go_simp)) hS0 ?_;try simp only [Act.put,sA_,sB_,sC_]
     refine tk1 1 176 (.string rest) rfl (fun w' hS=>by go_simp) hS0 ?_;try simp only [Act.put,sA_,sB_,sC_]
     refine tk1 2 177 (.string (rest.extract 1 rest.size)) rfl (fun w' hS=>by go_simp) hS0 ?_;try simp only [Act.put,sA_,sB_,sC_]
     refine rd1 3 (o:=⟨none,.store _ _ _,_,_,_,_⟩) rfl (fun K hK=>?_);obtain ⟨y0,y1,y2,y3,y4,y5,y6⟩:=s7_ HSTR.out.2.2.1.1;have yf:=HSTR.out.2.2.1.2.1;go_simp;have hne:w.heap.size≠w2.heap.size:=by have:=HSTR.out.2.2.2;omega
     refine hK.out _ _ (((((((HSTR.out.2.1.far hne _).far hne _).far hne _).far hne _).far hne _).far hne _).far hne _).drew (fun _=>?_);clear hK K hS0;try simp only [Act.put,sA_,sB_,sC_]
     refine tk1 4 5 (.string (rest.extract 1 rest.size)) rfl (fun w' hS=>by go_simp) (by assumption) ?_;try simp only [Act.put,sA_,sB_,sC_]
     refine tk1 5 6 (.bool true) rfl (fun w' hS=>by go_simp) (by assumption) ?_;try simp only [Act.put,sA_,sB_,sC_]
     refine wpAnyH_done (by kernel_rfl) ?_ _;go_wp2_with fail;refine bodyPost_ret (v:=.tuple #[.agg #[.int .i64 5,.string p1,.string ByteArray.empty,.int .i64 0,.int .i64 0,.int .i64 0,.slice A5 acc.length c5],.string (rest.extract 1 rest.size),.bool true]) (by simp [results,Tryz.results111,go_sem,y0,y1,y2,y3,y4,y5,y6]) rfl ⟨below7d HSTR.out.1 (Nat.le_refl _) _ _ _ _ _ _ _,.inl ⟨_,contCells 5 p1 ByteArray.empty (0) (0) (0) A5 acc.length c5,_,HFIN.out,rfl,?_⟩⟩;refine NewC.drew ?_;unfold NewC;rw [CRdS,fin_size];refine ⟨A5,c5,rfl,⟨by unfold okInt;omega,by unfold maxLen;have:=HP1S.out;omega,by unfold maxLen;decide,BS.out,BT.out,BL.out⟩,HC51.out,HC52.out,fun hn=>?_⟩;obtain ⟨bb,o,hA,hbb,hcs⟩:=HC53.out hn;have hs1:=HWS.out;have hs2:=HSTR.out.2.2.2;exact ⟨bb,o,hA,⟨by omega,hbb.2⟩,CsAtS_mono (fun y hy=>⟨by have:=hy.1;omega,hy.2⟩) (fun y o u hy hu=>fin_cells _ _ _ _ _ _ _ y o u (by have:=hy.1;omega) hu) bb hbb acc o hcs⟩
    ·
     have e41:((y.toNat:Int) != 41)=true:=by simp;omega
     have j1:(1:Int)≤(rest.size:Int):=by omega
     have hw64:wrap64 (d:Int)=(d:Int):=by have:=HDD.out;unfold wrap64;omega
     have hsp2:=HSPC.out;rw [loopR,if_neg (show ¬ rest.data.toList.head? = some (41:UInt8) from fun h=>h41 ((head_is HY2.out (n:=41) (by decide)).1 h))] at hsp2;have hcall:=HIH2.out (rest.extract 1 rest.size) wr (by rw [ByteArray.size_extract];have:=HN1.out.2.2.1;omega) (HOK.out.below HSTR.out.1);obtain ⟨RR,hRR⟩:∃ R,readR d (rest.extract 1 rest.size)=R:=⟨_,rfl⟩;rw [hRR] at hcall hsp2;have HCALL:=Lh_ hcall;have HSP2:=Lh_ hsp2;have HRR:=Lh_ hRR;clear hcall hsp2 hRR h41 HSPC;go_wp2_with fail;try rw [hw64]
     refine HCALL.out.mono ?_;rintro e' w5 ⟨hb5,hor⟩;clear e41 hw64 j1;clear hy;clear hn2 hn4;try clear e0 e0'
     try clear hlen1
     try clear i1
     try clear hN2
     try clear hlen2
     have HST5:=Lh_ (HSTR.out.below hb5);have HOWN5:=Lh_ (HOWN.out.below hb5);have HB5:=Lh_ hb5;rcases hor with ⟨c2,cs2,more,rfl,rfl,hnew⟩ | ⟨rfl,kk2,i2,l2,s2,t2,e2,A2,m2,cp2,rfl⟩
     ·
      skip
      have hlen:=read_len _ _ _ _ HRR.out;rw [ByteArray.size_extract] at hlen;have hpos2:=nodesC_pos c2;have hsp3:=HSP2.out;simp only at hsp3;obtain ⟨kk2,i2,l2,s2,t2,e2,xs2⟩:=c2;obtain ⟨A3,c3',rfl⟩:=CRdS_cells hnew;simp only [contCells];have HNEW:=Lh_ hnew;have HLEN:=Lh_ (And.intro hlen hpos2);have HSP3:=Lh_ hsp3;clear hnew hlen hpos2 hsp3 hb5 HSP2;go_upto_region 30 with fail
      obtain ⟨w6,hw6⟩:∃ w6,w5.alloc (.cells #[.int .i64 kk2,.string i2,.string l2,.int .i64 s2,.int .i64 t2,.int .i64 e2,.slice A3 xs2.length c3'] 72)=w6:=⟨_,rfl⟩;obtain ⟨hb6,hg6,hbox6⟩:=box7 hw6;rw [hw6];have HST6:=Lh_ (HST5.out.below hb6);have HOWN6:=Lh_ (HOWN5.out.below hb6);have HB6:=Lh_ hb6;have HG6:=Lh_ hg6;have hnew6:CRdS w6 (fun x=>wr.heap.size≤x∧x<w5.heap.size) (.mk kk2 i2 l2 s2 t2 e2 xs2) (contCells kk2 i2 l2 s2 t2 e2 A3 xs2.length c3'):=CRdS_mono (fun _ h=>h) (fun y o u hy hu=>(hb6.cell (p:=⟨y,o,none⟩) (by exact hy.2)).trans hu) _ _ HNEW.out;have HNEW6:=Lh_ hnew6;obtain ⟨b0,b1,b2,b3,b4,b5,b6⟩:=hbox6.zero;clear hw6 hb6 hg6 hbox6 hnew6 HST5 HOWN5 HNEW;by_cases hm0:more.size=0
      ·
       have hme:more.toList=[]:=by rw [of_list (List.eq_nil_of_length_eq_zero (show more.data.toList.length=0 by rw [ba_size];exact hm0))];decide +kernel
       have hsp4:=HSP3.out;rw [if_pos hm0] at hsp4;have hnone:readR (d+1) s=none:=by rw [HLOOP.out,← hsp4];rfl
       have HNN:=Lh_ hnone;clear hnone hsp4 hm0 b0 b1 b2 b3 b4 b5 b6;obtain ⟨A5,c5,rfl,-,-,-⟩:=HOWN6.out.cs;obtain ⟨x0,x1,x2,x3,x4,x5,x6⟩:=s7_ HST6.out.2.1.1;have xf:=HST6.out.2.1.2.1;obtain ⟨y0,y1,y2,y3,y4,y5,y6⟩:=s7_ HST6.out.2.2.1.1;have yf:=HST6.out.2.2.1.2.1;have HNONE:=Lh_ (show readR (d+1) s=none by exact HNN.out);go_wp2;exact bodyPost_ret (v:=.tuple #[.agg #[.int .i64 5,.string p1,.string ByteArray.empty,.int .i64 0,.int .i64 0,.int .i64 0,.slice A5 acc.length c5],.string ⟨#[]⟩,.bool false]) (by simp [results,Tryz.results111,go_sem,y0,y1,y2,y3,y4,y5,y6]) rfl (fail_post HNONE.out HST6.out.1 (Nat.le_refl _) _ _ _ _ _ _ _ _ _)
      have hme:¬ more.toList=[]:=fun h=>hm0 (by rw [(empty_iff more).1 h];rfl)
      have hme2:more.toList.isEmpty=false:=by simpa using hme
      have hsp4:=HSP3.out;rw [if_neg hm0] at hsp4;have HSP4:=Lh_ hsp4;clear hsp4;obtain ⟨w7,hw7⟩:∃ w7,w6.alloc (.cells #[.int .i64 kk2,.string i2,.string l2,.int .i64 s2,.int .i64 t2,.int .i64 e2,.slice A3 xs2.length c3'] 72)=w7:=⟨_,rfl⟩;obtain ⟨hb7,hg7,-⟩:=box7 hw7;have hnews:=cell7_new w6 72 kk2 i2 l2 s2 t2 e2 A3 xs2.length c3';rw [hw7] at hnews;have HST7:=Lh_ (HST6.out.below hb7);obtain ⟨css,o1,o2,o3'⟩:=HOWN6.out.below hb7;have hlenx:acc.length≤1000:=by have:=nodesL_length acc;have:=HN1.out.2.1;omega
      have HO1:=Lh_ o1;have HO2:=Lh_ o2;have HO3:=Lh_ o3';have HNEWS:=Lh_ hnews;have HLENX:=Lh_ hlenx;have HG7:=Lh_ hg7;have HB7:=Lh_ hb7;clear o2 o3' hnews hlenx hg7 hb7;have hx7:CRdS w7 (fun y=>ws.heap.size≤y∧y<w7.heap.size∧v.ownBlock≠some y) (.mk kk2 i2 l2 s2 t2 e2 xs2) (contCells kk2 i2 l2 s2 t2 e2 A3 xs2.length c3') :=
       CRdS_mono (fun y hy=>⟨by have:=hy.1;have:=HN1.out.2.2.2;omega,by have:=hy.2;have:=HB6.out.size;have:=HG7.out;omega,fun h=>by have h0:=(HOWN.out.lt y h).2;have:=hy.1;omega⟩) (fun y o u hy hu=>(HB7.out.cell (p:=⟨y,o,none⟩) (by have:=hy.2;have:=HB6.out.size;show y<w6.heap.size;omega)).trans hu) _ _ HNEW6.out
      have HX7:=Lh_ hx7;clear hx7;have u6:=HST6.out.2.1.1 6 _ rfl;go_wp2_with (at_builtin;go_must (refine wpList_append_own_at _ rfl _ _ 70 rfl ws.heap.size 72 i0 _ 7 88 Tryz.underlying70 HI0.out HZ0.out HZ1.out HZ2.out rfl (by decide) _ _ _ rfl o1 ⟨w6.heap.size,0,none⟩ 1 1 _ rfl rfl HNEWS.out (CRdS_one HNEW6.out) (by have:=HLENX.out;unfold maxLen;omega) (by have:=HLENX.out;omega) (by have:=HG7.out;have:=HN1.out.2.2.2;have:=HB5.out.size;have:=HB6.out.size;omega) ?_);intro v' w8 hown' hgrow _ hat;have HROW:=Lh_ (show ∀ q,v.ownBlock=some q→ws.heap.size≤q from fun q hq=>(HOWN.out.lt q hq).1);have hown8:=OwnsC.app (w:=w7) HO1.out HO2.out HO3.out HX7.out hown' hgrow (fun q hq=>Or.elim hat (fun h=>.inl (h.symm.trans hq)) (fun h=>.inr (by rw [hq] at h;have:=Option.some.inj h;omega)));obtain ⟨A8,c8,rfl,-,-,-⟩:=hown8.cs;rw [show (acc ++ [Cont.mk kk2 i2 l2 s2 t2 e2 xs2]).length=acc.length+1 by simp] at hown8 ⊢;have hst8:=HST7.out.row hgrow (fun q hq=>by have:=HROW.out q hq;have:=HWS.out;omega);have HST8:=Lh_ hst8;have HOWN8:=Lh_ hown8;have HS8:=Lh_ (show w7.heap.size≤w8.heap.size from hgrow.size);have z6:=hst8.2.1.1 6 _ rfl;have zf:=hst8.2.1.2.1;clear hst8 hown8 hown' hgrow hat u6 o1 hw7 b0 b1 b2 b3 b4 b5 b6);have hst9:=HST8.out.set_ (j:=6) (by simp) (.slice A8 (acc.length+1) c8);simp only [List.set_cons_zero,List.set_cons_succ] at hst9;have hown9:=HOWN8.out.grownb (grown_one w8 w2.heap.size 6 (.slice A8 (acc.length+1) c8)) (fun y hy e=>by have:=HWS.out;omega) (by have:=HWS.out;omega);have hsz8:w7.heap.size≤w8.heap.size:=HS8.out;have hrel9:RdRel w w.heap.size w2.heap.size ws.heap.size 72 5 p1 (0) (0) (0) (readR d) spec more (w8.setCell ⟨w2.heap.size,6,none⟩ (.slice A8 (acc.length+1) c8)):=by
       obtain ⟨lq1,lq2⟩:=HLEN.out;obtain ⟨m1,m2,m3,m4⟩:=HN1.out;refine ⟨_,acc ++ [.mk kk2 i2 l2 s2 t2 e2 xs2],n,hst9,hown9,HSP4.out,by omega,by omega,?_,by omega,?_⟩
       · rw [nodesL_app];omega
       ·
        have e1:=HB5.out.size;have e2:=HB6.out.size;have e3:=HG7.out
        show _≤(w8.setCell _ _).heap.size
        simp;omega
      have hmeas:more.size<rest.size:=by have:=HLEN.out;omega
      have HREL9:=Lh_ hrel9;have HMEAS:=Lh_ hmeas;clear hrel9 hmeas hown9 hst9 hsz8 z6 zf;go_roundw
      case rel=>exact ⟨more,rfl,HREL9⟩
      case measure=>exact HMEAS.out
     ·
      skip
      have hsp3:=HSP2.out;simp only at hsp3;have hnone:readR (d+1) s=none:=by rw [HLOOP.out,← hsp3];rfl
      have HNN:=Lh_ hnone;clear hnone hsp3 hb5 HSP2;go_upto_region 30 with fail
      obtain ⟨w6,hw6⟩:∃ w6,w5.alloc (.cells #[.int .i64 kk2,.string i2,.string l2,.int .i64 s2,.int .i64 t2,.int .i64 e2,.slice A2 m2 cp2] 72)=w6:=⟨_,rfl⟩;obtain ⟨hb6,hg6,-⟩:=box7 hw6;rw [hw6];have HST6:=Lh_ (HST5.out.below hb6);have HOWN6:=Lh_ (HOWN5.out.below hb6);clear hw6 hb6 hg6 HST5 HOWN5;obtain ⟨A5,c5,rfl,-,-,-⟩:=HOWN6.out.cs;obtain ⟨x0,x1,x2,x3,x4,x5,x6⟩:=s7_ HST6.out.2.1.1;have xf:=HST6.out.2.1.2.1;obtain ⟨y0,y1,y2,y3,y4,y5,y6⟩:=s7_ HST6.out.2.2.1.1;have yf:=HST6.out.2.2.1.2.1;have HNONE:=Lh_ (show readR (d+1) s=none by exact HNN.out);go_wp2;exact bodyPost_ret (v:=.tuple #[.agg #[.int .i64 5,.string p1,.string ByteArray.empty,.int .i64 0,.int .i64 0,.int .i64 0,.slice A5 acc.length c5],.string ⟨#[]⟩,.bool false]) (by simp [results,Tryz.results111,go_sem,y0,y1,y2,y3,y4,y5,y6]) rfl (fail_post HNONE.out HST6.out.1 (Nat.le_refl _) _ _ _ _ _ _ _ _ _)
  have HNtable:=Lh_ hqtable;clear hqtable;by_cases hqfs:p0=fsN
  ·
   skip
   have HQfs:=Lh_ hqfs;clear hqfs;have efs:(p0.toList == [102,115])=true:=by rw [HQfs.out];decide +kernel
   have eraid:(p0.toList == [114,97,105,100])=false:=by rw [HQfs.out];decide +kernel
   have ecrypt:(p0.toList == [99,114,121,112,116])=false:=by rw [HQfs.out];decide +kernel
   have epv:(p0.toList == [112,118])=false:=by rw [HQfs.out];decide +kernel
   have etable:(p0.toList == [116,97,98,108,101])=false:=by rw [HQfs.out];decide +kernel
   obtain ⟨x0,x1,x2,x3,x4,x5,x6⟩:=s7_ HST4.out.2.1.1;have xf:=HST4.out.2.1.2.1;obtain ⟨y0,y1,y2,y3,y4,y5,y6⟩:=s7_ HST4.out.2.2.1.1;have yf:=HST4.out.2.2.1.2.1;have HNONE:=Lh_ (show readR (d+1) s=none by rw [HRS.out];exact readS_none (by rw [HH.out,HPP.out];exact headP_none2 HNcrypt.out HNtable.out));go_wp2;exact bodyPost_ret (v:=.tuple #[.agg #[.int .i64 0,.string p1,.string ByteArray.empty,.int .i64 0,.int .i64 0,.int .i64 0,.slice none 0 0],.string ⟨#[]⟩,.bool false]) (by simp [results,Tryz.results111,go_sem,y0,y1,y2,y3,y4,y5,y6]) rfl (fail_post HNONE.out HST4.out.1 (Nat.le_refl _) _ _ _ _ _ _ _ _ _)
  have HNfs:=Lh_ hqfs;clear hqfs;by_cases hqraid:p0=raidN
  ·
   skip
   have HQraid:=Lh_ hqraid;clear hqraid;have efs:(p0.toList == [102,115])=false:=by rw [HQraid.out];decide +kernel
   have eraid:(p0.toList == [114,97,105,100])=true:=by rw [HQraid.out];decide +kernel
   have ecrypt:(p0.toList == [99,114,121,112,116])=false:=by rw [HQraid.out];decide +kernel
   have epv:(p0.toList == [112,118])=false:=by rw [HQraid.out];decide +kernel
   have etable:(p0.toList == [116,97,98,108,101])=false:=by rw [HQraid.out];decide +kernel
   obtain ⟨x0,x1,x2,x3,x4,x5,x6⟩:=s7_ HST4.out.2.1.1;have xf:=HST4.out.2.1.2.1;obtain ⟨y0,y1,y2,y3,y4,y5,y6⟩:=s7_ HST4.out.2.2.1.1;have yf:=HST4.out.2.2.1.2.1;have HNONE:=Lh_ (show readR (d+1) s=none by rw [HRS.out];exact readS_none (by rw [HH.out,HPP.out];exact headP_none2 HNcrypt.out HNtable.out));go_wp2;exact bodyPost_ret (v:=.tuple #[.agg #[.int .i64 0,.string p1,.string ByteArray.empty,.int .i64 0,.int .i64 0,.int .i64 0,.slice none 0 0],.string ⟨#[]⟩,.bool false]) (by simp [results,Tryz.results111,go_sem,y0,y1,y2,y3,y4,y5,y6]) rfl (fail_post HNONE.out HST4.out.1 (Nat.le_refl _) _ _ _ _ _ _ _ _ _)
  have HNraid:=Lh_ hqraid;clear hqraid;by_cases hqpv:p0=pvN
  ·
   skip
   have HQpv:=Lh_ hqpv;clear hqpv;have efs:(p0.toList == [102,115])=false:=by rw [HQpv.out];decide +kernel
   have eraid:(p0.toList == [114,97,105,100])=false:=by rw [HQpv.out];decide +kernel
   have ecrypt:(p0.toList == [99,114,121,112,116])=false:=by rw [HQpv.out];decide +kernel
   have epv:(p0.toList == [112,118])=true:=by rw [HQpv.out];decide +kernel
   have etable:(p0.toList == [116,97,98,108,101])=false:=by rw [HQpv.out];decide +kernel
   obtain ⟨x0,x1,x2,x3,x4,x5,x6⟩:=s7_ HST4.out.2.1.1;have xf:=HST4.out.2.1.2.1;obtain ⟨y0,y1,y2,y3,y4,y5,y6⟩:=s7_ HST4.out.2.2.1.1;have yf:=HST4.out.2.2.1.2.1;have HNONE:=Lh_ (show readR (d+1) s=none by rw [HRS.out];exact readS_none (by rw [HH.out,HPP.out];exact headP_none2 HNcrypt.out HNtable.out));go_wp2;exact bodyPost_ret (v:=.tuple #[.agg #[.int .i64 0,.string p1,.string ByteArray.empty,.int .i64 0,.int .i64 0,.int .i64 0,.slice none 0 0],.string ⟨#[]⟩,.bool false]) (by simp [results,Tryz.results111,go_sem,y0,y1,y2,y3,y4,y5,y6]) rfl (fail_post HNONE.out HST4.out.1 (Nat.le_refl _) _ _ _ _ _ _ _ _ _)
  have HNpv:=Lh_ hqpv;clear hqpv;have efs:(p0.toList == [102,115])=false:=by rw [show ([102,115]:List UInt8)=(fsN:ByteArray).toList from by decide +kernel,ba_beq];exact decide_eq_false HNfs.out
  have eraid:(p0.toList == [114,97,105,100])=false:=by rw [show ([114,97,105,100]:List UInt8)=(raidN:ByteArray).toList from by decide +kernel,ba_beq];exact decide_eq_false HNraid.out
  have ecrypt:(p0.toList == [99,114,121,112,116])=false:=by rw [show ([99,114,121,112,116]:List UInt8)=(cryptN:ByteArray).toList from by decide +kernel,ba_beq];exact decide_eq_false HNcrypt.out
  have epv:(p0.toList == [112,118])=false:=by rw [show ([112,118]:List UInt8)=(pvN:ByteArray).toList from by decide +kernel,ba_beq];exact decide_eq_false HNpv.out
  have etable:(p0.toList == [116,97,98,108,101])=false:=by rw [show ([116,97,98,108,101]:List UInt8)=(tableN:ByteArray).toList from by decide +kernel,ba_beq];exact decide_eq_false HNtable.out
  obtain ⟨x0,x1,x2,x3,x4,x5,x6⟩:=s7_ HST4.out.2.1.1;have xf:=HST4.out.2.1.2.1;obtain ⟨y0,y1,y2,y3,y4,y5,y6⟩:=s7_ HST4.out.2.2.1.1;have yf:=HST4.out.2.2.1.2.1;have HNONE:=Lh_ (show readR (d+1) s=none by rw [HRS.out];exact readS_none (by rw [HH.out,HPP.out];exact headP_none2 HNcrypt.out HNtable.out));go_wp2;exact bodyPost_ret (v:=.tuple #[.agg #[.int .i64 0,.string p1,.string ByteArray.empty,.int .i64 0,.int .i64 0,.int .i64 0,.slice none 0 0],.string ⟨#[]⟩,.bool false]) (by simp [results,Tryz.results111,go_sem,y0,y1,y2,y3,y4,y5,y6]) rfl (fail_post HNONE.out HST4.out.1 (Nat.le_refl _) _ _ _ _ _ _ _ _ _)
 ·
  have hP0:=HPB4.out.1 0 _ rfl
  have b3:((N:Int) == 3)=false:=beq_eq_false_iff_ne.2 (by omega);have b2:((N:Int) == 2)=false:=beq_eq_false_iff_ne.2 (by omega);by_cases hqfs:p0=fsN
  ·
   skip
   have HQfs:=Lh_ hqfs;clear hqfs;have efs:(p0.toList == [102,115])=true:=by rw [HQfs.out];decide +kernel
   have eraid:(p0.toList == [114,97,105,100])=false:=by rw [HQfs.out];decide +kernel
   have ecrypt:(p0.toList == [99,114,121,112,116])=false:=by rw [HQfs.out];decide +kernel
   have epv:(p0.toList == [112,118])=false:=by rw [HQfs.out];decide +kernel
   have etable:(p0.toList == [116,97,98,108,101])=false:=by rw [HQfs.out];decide +kernel
   obtain ⟨x0,x1,x2,x3,x4,x5,x6⟩:=s7_ HST4.out.2.1.1;have xf:=HST4.out.2.1.2.1;obtain ⟨y0,y1,y2,y3,y4,y5,y6⟩:=s7_ HST4.out.2.2.1.1;have yf:=HST4.out.2.2.1.2.1;have HNONE:=Lh_ (show readR (d+1) s=none by rw [HRS.out];exact readS_none (by rw [HH.out,HPP.out];exact headP_noneN (by rw [HN.out];exact hN2') (by rw [HN.out];exact hN3)));go_wp2;exact bodyPost_ret (v:=.tuple #[.agg #[.int .i64 0,.string p1,.string ByteArray.empty,.int .i64 0,.int .i64 0,.int .i64 0,.slice none 0 0],.string ⟨#[]⟩,.bool false]) (by simp [results,Tryz.results111,go_sem,y0,y1,y2,y3,y4,y5,y6]) rfl (fail_post HNONE.out HST4.out.1 (Nat.le_refl _) _ _ _ _ _ _ _ _ _)
  have HNfs:=Lh_ hqfs;clear hqfs;by_cases hqraid:p0=raidN
  ·
   skip
   have HQraid:=Lh_ hqraid;clear hqraid;have efs:(p0.toList == [102,115])=false:=by rw [HQraid.out];decide +kernel
   have eraid:(p0.toList == [114,97,105,100])=true:=by rw [HQraid.out];decide +kernel
   have ecrypt:(p0.toList == [99,114,121,112,116])=false:=by rw [HQraid.out];decide +kernel
   have epv:(p0.toList == [112,118])=false:=by rw [HQraid.out];decide +kernel
   have etable:(p0.toList == [116,97,98,108,101])=false:=by rw [HQraid.out];decide +kernel
   obtain ⟨x0,x1,x2,x3,x4,x5,x6⟩:=s7_ HST4.out.2.1.1;have xf:=HST4.out.2.1.2.1;obtain ⟨y0,y1,y2,y3,y4,y5,y6⟩:=s7_ HST4.out.2.2.1.1;have yf:=HST4.out.2.2.1.2.1;have HNONE:=Lh_ (show readR (d+1) s=none by rw [HRS.out];exact readS_none (by rw [HH.out,HPP.out];exact headP_noneN (by rw [HN.out];exact hN2') (by rw [HN.out];exact hN3)));go_wp2;exact bodyPost_ret (v:=.tuple #[.agg #[.int .i64 0,.string p1,.string ByteArray.empty,.int .i64 0,.int .i64 0,.int .i64 0,.slice none 0 0],.string ⟨#[]⟩,.bool false]) (by simp [results,Tryz.results111,go_sem,y0,y1,y2,y3,y4,y5,y6]) rfl (fail_post HNONE.out HST4.out.1 (Nat.le_refl _) _ _ _ _ _ _ _ _ _)
  have HNraid:=Lh_ hqraid;clear hqraid;by_cases hqcrypt:p0=cryptN
  ·
   skip
   have HQcrypt:=Lh_ hqcrypt;clear hqcrypt;have efs:(p0.toList == [102,115])=false:=by rw [HQcrypt.out];decide +kernel
   have eraid:(p0.toList == [114,97,105,100])=false:=by rw [HQcrypt.out];decide +kernel
   have ecrypt:(p0.toList == [99,114,121,112,116])=true:=by rw [HQcrypt.out];decide +kernel
   have epv:(p0.toList == [112,118])=false:=by rw [HQcrypt.out];decide +kernel
   have etable:(p0.toList == [116,97,98,108,101])=false:=by rw [HQcrypt.out];decide +kernel
   obtain ⟨x0,x1,x2,x3,x4,x5,x6⟩:=s7_ HST4.out.2.1.1;have xf:=HST4.out.2.1.2.1;obtain ⟨y0,y1,y2,y3,y4,y5,y6⟩:=s7_ HST4.out.2.2.1.1;have yf:=HST4.out.2.2.1.2.1;have HNONE:=Lh_ (show readR (d+1) s=none by rw [HRS.out];exact readS_none (by rw [HH.out,HPP.out];exact headP_noneN (by rw [HN.out];exact hN2') (by rw [HN.out];exact hN3)));go_wp2;exact bodyPost_ret (v:=.tuple #[.agg #[.int .i64 0,.string p1,.string ByteArray.empty,.int .i64 0,.int .i64 0,.int .i64 0,.slice none 0 0],.string ⟨#[]⟩,.bool false]) (by simp [results,Tryz.results111,go_sem,y0,y1,y2,y3,y4,y5,y6]) rfl (fail_post HNONE.out HST4.out.1 (Nat.le_refl _) _ _ _ _ _ _ _ _ _)
  have HNcrypt:=Lh_ hqcrypt;clear hqcrypt;by_cases hqpv:p0=pvN
  ·
   skip
   have HQpv:=Lh_ hqpv;clear hqpv;have efs:(p0.toList == [102,115])=false:=by rw [HQpv.out];decide +kernel
   have eraid:(p0.toList == [114,97,105,100])=false:=by rw [HQpv.out];decide +kernel
   have ecrypt:(p0.toList == [99,114,121,112,116])=false:=by rw [HQpv.out];decide +kernel
   have epv:(p0.toList == [112,118])=true:=by rw [HQpv.out];decide +kernel
   have etable:(p0.toList == [116,97,98,108,101])=false:=by rw [HQpv.out];decide +kernel
   obtain ⟨x0,x1,x2,x3,x4,x5,x6⟩:=s7_ HST4.out.2.1.1;have xf:=HST4.out.2.1.2.1;obtain ⟨y0,y1,y2,y3,y4,y5,y6⟩:=s7_ HST4.out.2.2.1.1;have yf:=HST4.out.2.2.1.2.1;have HNONE:=Lh_ (show readR (d+1) s=none by rw [HRS.out];exact readS_none (by rw [HH.out,HPP.out];exact headP_noneN (by rw [HN.out];exact hN2') (by rw [HN.out];exact hN3)));go_wp2;exact bodyPost_ret (v:=.tuple #[.agg #[.int .i64 0,.string p1,.string ByteArray.empty,.int .i64 0,.int .i64 0,.int .i64 0,.slice none 0 0],.string ⟨#[]⟩,.bool false]) (by simp [results,Tryz.results111,go_sem,y0,y1,y2,y3,y4,y5,y6]) rfl (fail_post HNONE.out HST4.out.1 (Nat.le_refl _) _ _ _ _ _ _ _ _ _)
  have HNpv:=Lh_ hqpv;clear hqpv;by_cases hqtable:p0=tableN
  ·
   skip
   have HQtable:=Lh_ hqtable;clear hqtable;have efs:(p0.toList == [102,115])=false:=by rw [HQtable.out];decide +kernel
   have eraid:(p0.toList == [114,97,105,100])=false:=by rw [HQtable.out];decide +kernel
   have ecrypt:(p0.toList == [99,114,121,112,116])=false:=by rw [HQtable.out];decide +kernel
   have epv:(p0.toList == [112,118])=false:=by rw [HQtable.out];decide +kernel
   have etable:(p0.toList == [116,97,98,108,101])=true:=by rw [HQtable.out];decide +kernel
   obtain ⟨x0,x1,x2,x3,x4,x5,x6⟩:=s7_ HST4.out.2.1.1;have xf:=HST4.out.2.1.2.1;obtain ⟨y0,y1,y2,y3,y4,y5,y6⟩:=s7_ HST4.out.2.2.1.1;have yf:=HST4.out.2.2.1.2.1;have HNONE:=Lh_ (show readR (d+1) s=none by rw [HRS.out];exact readS_none (by rw [HH.out,HPP.out];exact headP_noneN (by rw [HN.out];exact hN2') (by rw [HN.out];exact hN3)));go_wp2;exact bodyPost_ret (v:=.tuple #[.agg #[.int .i64 0,.string p1,.string ByteArray.empty,.int .i64 0,.int .i64 0,.int .i64 0,.slice none 0 0],.string ⟨#[]⟩,.bool false]) (by simp [results,Tryz.results111,go_sem,y0,y1,y2,y3,y4,y5,y6]) rfl (fail_post HNONE.out HST4.out.1 (Nat.le_refl _) _ _ _ _ _ _ _ _ _)
  have HNtable:=Lh_ hqtable;clear hqtable;have efs:(p0.toList == [102,115])=false:=by rw [show ([102,115]:List UInt8)=(fsN:ByteArray).toList from by decide +kernel,ba_beq];exact decide_eq_false HNfs.out
  have eraid:(p0.toList == [114,97,105,100])=false:=by rw [show ([114,97,105,100]:List UInt8)=(raidN:ByteArray).toList from by decide +kernel,ba_beq];exact decide_eq_false HNraid.out
  have ecrypt:(p0.toList == [99,114,121,112,116])=false:=by rw [show ([99,114,121,112,116]:List UInt8)=(cryptN:ByteArray).toList from by decide +kernel,ba_beq];exact decide_eq_false HNcrypt.out
  have epv:(p0.toList == [112,118])=false:=by rw [show ([112,118]:List UInt8)=(pvN:ByteArray).toList from by decide +kernel,ba_beq];exact decide_eq_false HNpv.out
  have etable:(p0.toList == [116,97,98,108,101])=false:=by rw [show ([116,97,98,108,101]:List UInt8)=(tableN:ByteArray).toList from by decide +kernel,ba_beq];exact decide_eq_false HNtable.out
  obtain ⟨x0,x1,x2,x3,x4,x5,x6⟩:=s7_ HST4.out.2.1.1;have xf:=HST4.out.2.1.2.1;obtain ⟨y0,y1,y2,y3,y4,y5,y6⟩:=s7_ HST4.out.2.2.1.1;have yf:=HST4.out.2.2.1.2.1;have HNONE:=Lh_ (show readR (d+1) s=none by rw [HRS.out];exact readS_none (by rw [HH.out,HPP.out];exact headP_noneN (by rw [HN.out];exact hN2') (by rw [HN.out];exact hN3)));go_wp2;exact bodyPost_ret (v:=.tuple #[.agg #[.int .i64 0,.string p1,.string ByteArray.empty,.int .i64 0,.int .i64 0,.int .i64 0,.slice none 0 0],.string ⟨#[]⟩,.bool false]) (by simp [results,Tryz.results111,go_sem,y0,y1,y2,y3,y4,y5,y6]) rfl (fail_post HNONE.out HST4.out.1 (Nat.le_refl _) _ _ _ _ _ _ _ _ _)
theorem read_any:∀ d,d≤1000→ReadCalls d
 | 0,_=>read_step 0 (by decide) (fun h=>absurd h (by decide))
 | d+1,h=>read_step (d+1) h (fun _=>read_any d (by omega))
end Go.Proofs.YtjgllhlilbchpaaGreatDoor
