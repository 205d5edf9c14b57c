/-
  The walk of layer 7's parser: content,and with it every text.
-/
import Derived.Test.YtjgllhlilbchpaaGreatDoorQTK
import Derived.Test.YtjgllhlilbchpaaGreatDoorQA
import Derived.Test.YtjgllhlilbchpaaGreatDoorQD
import Derived.Test.YtjgllhlilbchpaaGreatDoorQSC
import Derived.Deep.DeepCutAuto
import Derived.Test.YtjgllhlilbchpaaGreatDoorQSB
import Derived.Deep.AppendLies
import Derived.Deep.RegionHeld3
set_option linter.unusedSimpArgs false
set_option linter.unusedVariables false
namespace Go.Cold
open Go Go.RowKit
theorem CurAt.set_ {w:World} {b k g j:Nat} {s:ByteArray} {bad:Bool} (h:CurAt w b s k bad) (hne:g≠b) (v:Value):CurAt (w.setCell ⟨g,j,none⟩ v) b s k bad:=by
 obtain ⟨h0,h1,h2,hf,hlt⟩:=h;exact ⟨(cell_set_far w ⟨g,j,none⟩ v b 0 hne).trans h0,(cell_set_far w ⟨g,j,none⟩ v b 1 hne).trans h1,(cell_set_far w ⟨g,j,none⟩ v b 2 hne).trans h2,fun i=>(World.frozen?_setCell w _ _ _).trans (hf i),by simpa using hlt⟩
def zeroL:List Value:=[.int .i64 0,.string ByteArray.empty,.string ByteArray.empty,.int .i64 0,.int .i64 0,.int .i64 0,.slice none 0 0]
end Go.Cold
namespace Go.Proofs.YtjgllhlilbchpaaGreatDoor
open Go.RowKit Go.Cold
def StP (w0:World) (b gr gc:Nat) (s:ByteArray) (k0:Nat) (bad0:Bool) (w:World) (k:Nat) (bad:Bool) (cs:List Value):Prop :=
 CurAt w b s k bad∧w0.grownBy w (some b)∧BoxL w gc cs∧BoxL w gr zeroL∧(k0≤k∧k≤s.size∧w0.heap.size≤gr∧gr<gc∧b<w0.heap.size)∧(bad=false→bad0=false∧k0+1≤k)
section
variable {w0 w w':World} {b gr gc k0 k:Nat} {s:ByteArray} {bad0 bad:Bool} {cs:List Value}
theorem StP.go {k':Nat} {bad':Bool} (h:StP w0 b gr gc s k0 bad0 w k bad cs) (hc:CurAt w' b s k' bad') (hg:w.grownBy w' (some b)) (hk:k≤k'∧k'≤s.size) (hbad:bad'=false→bad=false):StP w0 b gr gc s k0 bad0 w' k' bad' cs:=by
 obtain ⟨h1,h2,h3,h4,⟨h5,h6,h7,h8,h9⟩,h10⟩:=h;exact ⟨hc,grown_trans h2 hg,h3.kept hg (fun e=>by have:=Option.some.inj e;omega),h4.kept hg (fun e=>by have:=Option.some.inj e;omega),⟨by omega,by omega,h7,h8,h9⟩,fun h=>⟨(h10 (hbad h)).1,by have:=(h10 (hbad h)).2;omega⟩⟩
theorem StP.set_ (h:StP w0 b gr gc s k0 bad0 w k bad cs) {j:Nat} (hj:j<cs.length) (v:Value):StP w0 b gr gc s k0 bad0 (w.setCell ⟨gc,j,none⟩ v) k bad (cs.set j v):=by
 obtain ⟨h1,h2,h3,h4,⟨h5,h6,h7,h8,h9⟩,h10⟩:=h;exact ⟨h1.set_ (by omega) v,grown_set h2 (by omega) v,h3.set_ hj v,h4.far (by omega) v,⟨h5,h6,h7,h8,h9⟩,h10⟩
end
theorem or_false_r {a b:Bool} (h:(a || b)=false):b=false:=by cases a <;> simp_all
theorem or_false_l {a b:Bool} (h:(a || b)=false):a=false:=by cases a <;> simp_all
theorem step_num {α:Type} (s:ByteArray) (k:Nat) (bad:Bool) (R:Int × Nat→Option α) (n:Int) (hn:∀ m,numP (pieceP s slashE k)=some m→n=m) :
  (if bad then none else (numAt s k).bind R)=(if (bad || (numP (pieceP s slashE k)).isNone) then none else R (n,afterP s slashE k)):=by
 have h:numAt s k=(numP (pieceP s slashE k)).map fun n=>(n,afterP s slashE k):=rfl
 rw [h];cases hq:numP (pieceP s slashE k) with
 | none=>cases bad <;> rfl
 | some m=>have:=hn m hq;subst this;cases bad <;> rfl
theorem step_inner {α:Type} (s:ByteArray) (f k:Nat) (bad bad':Bool) (xs:List Cont) (k':Nat) (G:List Cont × Nat→α)
  (h:(if bad then none else (wantP s ⟨#[40]⟩ k).bind fun k1=>innerP s f k1 [])=(if bad' then none else some (xs,k'))) :
  (if bad then none else (wantP s ⟨#[40]⟩ k).bind fun k1=>(innerP s f k1 []).map G)=(if bad' then none else some (G (xs,k'))):=by
 have h2:(if bad then none else (wantP s ⟨#[40]⟩ k).bind fun k1=>(innerP s f k1 []).map G)=(if bad then none else (wantP s ⟨#[40]⟩ k).bind fun k1=>innerP s f k1 []).map G:=by
  cases bad
  ·
   simp only [Bool.false_eq_true,if_false]
   cases wantP s ⟨#[40]⟩ k <;> rfl
  · rfl
 rw [h2,h];cases bad' <;> rfl
theorem bad_of_none {α:Type} {bad:Bool} {x:α} (h:none=(if bad then none else some x)):bad=true:=by
 cases bad
 · cases h
 · rfl
theorem fin_cells {w:World} {gr:Nat} (v0 v1 v2 v3 v4 v5 v6:Value) (y o:Nat) (u:Value) (hy:gr≠y) (h:w.cell? ⟨y,o,none⟩=some u) :
  (((((((w.setCell ⟨gr,0,none⟩ v0).setCell ⟨gr,1,none⟩ v1).setCell ⟨gr,2,none⟩ v2).setCell ⟨gr,3,none⟩ v3).setCell ⟨gr,4,none⟩ v4).setCell ⟨gr,5,none⟩ v5).setCell ⟨gr,6,none⟩ v6).cell? ⟨y,o,none⟩=some u:=by
 rw [cell_set_far _ _ _ _ _ hy,cell_set_far _ _ _ _ _ hy,cell_set_far _ _ _ _ _ hy,cell_set_far _ _ _ _ _ hy,cell_set_far _ _ _ _ _ hy,cell_set_far _ _ _ _ _ hy,cell_set_far _ _ _ _ _ hy];exact h
theorem fin_size (w:World) (gr:Nat) (v0 v1 v2 v3 v4 v5 v6:Value) :
  (((((((w.setCell ⟨gr,0,none⟩ v0).setCell ⟨gr,1,none⟩ v1).setCell ⟨gr,2,none⟩ v2).setCell ⟨gr,3,none⟩ v3).setCell ⟨gr,4,none⟩ v4).setCell ⟨gr,5,none⟩ v5).setCell ⟨gr,6,none⟩ v6).heap.size=w.heap.size:=by simp
theorem fin_cur {w0 w:World} {b gr k:Nat} {s:ByteArray} {bad:Bool} (v0 v1 v2 v3 v4 v5 v6:Value) (h:CurAt w b s k bad) (hg:w0.grownBy w (some b)) (hne:gr≠b) (hgr:w0.heap.size≤gr) :
  CurAt (((((((w.setCell ⟨gr,0,none⟩ v0).setCell ⟨gr,1,none⟩ v1).setCell ⟨gr,2,none⟩ v2).setCell ⟨gr,3,none⟩ v3).setCell ⟨gr,4,none⟩ v4).setCell ⟨gr,5,none⟩ v5).setCell ⟨gr,6,none⟩ v6) b s k bad∧
  w0.grownBy (((((((w.setCell ⟨gr,0,none⟩ v0).setCell ⟨gr,1,none⟩ v1).setCell ⟨gr,2,none⟩ v2).setCell ⟨gr,3,none⟩ v3).setCell ⟨gr,4,none⟩ v4).setCell ⟨gr,5,none⟩ v5).setCell ⟨gr,6,none⟩ v6) (some b) :=
 ⟨((((((h.set_ hne v0).set_ hne v1).set_ hne v2).set_ hne v3).set_ hne v4).set_ hne v5).set_ hne v6,grown_set (grown_set (grown_set (grown_set (grown_set (grown_set (grown_set hg hgr v0) hgr v1) hgr v2) hgr v3) hgr v4) hgr v5) hgr v6⟩
def InS (w:World) (lo:Nat) (A:Option Addr) (c:Nat) (xs:List Cont):Prop:=xs.length≤c∧c≤maxLen∧
 (0<xs.length→∃ bb o,A=some ⟨bb,o,none⟩∧(lo≤bb∧bb<w.heap.size)∧CsAtS w (fun x=>lo≤x∧x<w.heap.size) bb xs o)
theorem InS.set_ {w:World} {lo g j c:Nat} {A:Option Addr} {xs:List Cont} (h:InS w lo A c xs) (hg:g<lo) (v:Value):InS (w.setCell ⟨g,j,none⟩ v) lo A c xs:=by
 obtain ⟨h1,h2,h3⟩:=h;refine ⟨h1,h2,fun hn=>?_⟩;obtain ⟨bb,o,hA,hbb,hcs⟩:=h3 hn;have hs:(w.setCell ⟨g,j,none⟩ v).heap.size=w.heap.size:=by simp
 rw [hs];exact ⟨bb,o,hA,hbb,CsAtS_mono (fun _ h=>h) (fun y o u hy hu=>(cell_set_far w ⟨g,j,none⟩ v y o (by show g≠y;have:=hy.1;omega)).trans hu) bb hbb xs o hcs⟩
section
variable {s:ByteArray} {f k:Nat}
theorem contP_none (h:pieceP s ⟨#[58,44,41]⟩ k=⟨#[]⟩):contP s (f+1) k=some (.mk 0 ⟨#[]⟩ ⟨#[]⟩ 0 0 0 [],afterP s ⟨#[58,44,41]⟩ k):=by
 rw [contP];simp [h]
theorem contP_fs (h:pieceP s ⟨#[58,44,41]⟩ k=⟨#[102,115]⟩):contP s (f+1) k=(wantP s ⟨#[58]⟩ (afterP s ⟨#[58,44,41]⟩ k)).bind fun k2=>(wantP s ⟨#[58]⟩ (afterP s ⟨#[58,40,44,41]⟩ k2)).bind fun k4=>some (.mk 1 (pieceP s ⟨#[58,40,44,41]⟩ k2) (pieceP s ⟨#[44,41]⟩ k4) 0 0 0 [],afterP s ⟨#[44,41]⟩ k4):=by
 rw [contP];simp [h]
theorem contP_raid (h:pieceP s ⟨#[58,44,41]⟩ k=⟨#[114,97,105,100]⟩):contP s (f+1) k=(wantP s ⟨#[58]⟩ (afterP s ⟨#[58,44,41]⟩ k)).bind fun k2=>(wantP s ⟨#[58]⟩ (afterP s ⟨#[58,40,44,41]⟩ k2)).bind fun k4=>(numAt s k4).bind fun (n1,k5)=>(wantP s ⟨#[47]⟩ k5).bind fun k6=>(numAt s k6).bind fun (n2,k7)=>(wantP s ⟨#[47]⟩ k7).bind fun k8=>(numAt s k8).bind fun (n3,k9)=>(wantP s ⟨#[40]⟩ k9).bind fun k10=>(innerP s f k10 []).map fun (xs,k11)=>(.mk 2 (pieceP s ⟨#[58,40,44,41]⟩ k2) ⟨#[]⟩ n1 n2 n3 xs,k11):=by
 rw [contP];simp [h]
theorem contP_crypt (h:pieceP s ⟨#[58,44,41]⟩ k=⟨#[99,114,121,112,116]⟩):contP s (f+1) k=(wantP s ⟨#[58]⟩ (afterP s ⟨#[58,44,41]⟩ k)).bind fun k2=>(wantP s ⟨#[40]⟩ (afterP s ⟨#[58,40,44,41]⟩ k2)).bind fun k10=>(innerP s f k10 []).map fun (xs,k11)=>(.mk 3 (pieceP s ⟨#[58,40,44,41]⟩ k2) ⟨#[]⟩ 0 0 0 xs,k11):=by
 rw [contP];simp [h]
theorem contP_pv (h:pieceP s ⟨#[58,44,41]⟩ k=⟨#[112,118]⟩):contP s (f+1) k=(wantP s ⟨#[58]⟩ (afterP s ⟨#[58,44,41]⟩ k)).bind fun k2=>(wantP s ⟨#[58]⟩ (afterP s ⟨#[58,40,44,41]⟩ k2)).bind fun k4=>(numAt s k4).bind fun (n1,k5)=>(wantP s ⟨#[47]⟩ k5).bind fun k6=>(numAt s k6).bind fun (n2,k7)=>(wantP s ⟨#[40]⟩ k7).bind fun k10=>(innerP s f k10 []).map fun (xs,k11)=>(.mk 4 (pieceP s ⟨#[58,40,44,41]⟩ k2) ⟨#[]⟩ n1 n2 0 xs,k11):=by
 rw [contP];simp [h]
theorem contP_table (h:pieceP s ⟨#[58,44,41]⟩ k=⟨#[116,97,98,108,101]⟩):contP s (f+1) k=(wantP s ⟨#[58]⟩ (afterP s ⟨#[58,44,41]⟩ k)).bind fun k2=>(wantP s ⟨#[40]⟩ (afterP s ⟨#[58,40,44,41]⟩ k2)).bind fun k10=>(innerP s f k10 []).map fun (xs,k11)=>(.mk 5 (pieceP s ⟨#[58,40,44,41]⟩ k2) ⟨#[]⟩ 0 0 0 xs,k11):=by
 rw [contP];simp [h]
theorem contP_other (h:pieceP s ⟨#[58,44,41]⟩ k≠⟨#[]⟩) (hfs:pieceP s ⟨#[58,44,41]⟩ k≠⟨#[102,115]⟩) (hraid:pieceP s ⟨#[58,44,41]⟩ k≠⟨#[114,97,105,100]⟩) (hcrypt:pieceP s ⟨#[58,44,41]⟩ k≠⟨#[99,114,121,112,116]⟩) (hpv:pieceP s ⟨#[58,44,41]⟩ k≠⟨#[112,118]⟩) (htable:pieceP s ⟨#[58,44,41]⟩ k≠⟨#[116,97,98,108,101]⟩):contP s (f+1) k=none:=by
 rw [contP];simp [h,hfs,hraid,hcrypt,hpv,htable]
end

set_option maxHeartbeats 16000000 in
set_option maxRecDepth 100000 in
theorem content_step (s:ByteArray) (hs:s.size≤1000) (hix:IxOk s) (N:Nat) (H:ContCalls s N):ContCalls s (N+1):=by
 intro k f bad b w hN hk hf hc hok hgb;have hzv:=(zero_of_info (P:=Tryz.prog) (t:=72) info_cont2).1;obtain ⟨f',hf1,hf2⟩:∃ f',(if bad then none else contP s f k)=(if bad then none else contP s (f'+1) k)∧(bad=false→s.size≤f'+k):=by
  cases bad with
  | true=>exact ⟨0,by rw [if_pos rfl,if_pos rfl],fun h=>by cases h⟩
  | false =>
   have:=hf rfl;exact ⟨f - 1,by rw [show f - 1+1=f by omega],fun _=>by omega⟩
 have hbw:b<w.heap.size:=hc.2.2.2.2;have HF2:=Lh_ hf2;have HOK:=Lh_ hok;have HGB:=Lh_ hgb;have HH:=Lh_ H;have HIX:=Lh_ hix;obtain ⟨spec,hspec⟩:∃ spec,(if bad then none else contP s f k)=spec:=⟨_,rfl⟩;have HSPC:=Lh_ hspec;rw [hspec] at hf1;have HF1:=Lh_ hf1;clear hf2 hok hgb H hix hspec hf1 hf;obtain ⟨wA,hwA⟩:∃ wA,w.alloc (.cells #[.int .i64 0,.string ByteArray.empty,.string ByteArray.empty,.int .i64 0,.int .i64 0,.int .i64 0,.slice none 0 0] 72)=wA:=⟨_,rfl⟩;obtain ⟨hbA,hgA,hboxA⟩:=box7 hwA;have hfrA:=box7f hwA;have hcA:=(hc.below hbA).1;have hgrA:=(hc.below hbA).2;have hBA:BoxL wA w.heap.size zeroL:=by
  refine ⟨fun j u hu=>?_,hfrA,by omega⟩;subst hwA;rw [World.cell?_alloc_at _ _ _ _ rfl];simpa [zeroL] using hu
 have HCA:=Lh_ hcA;have HGRA:=Lh_ hgrA;have HBA:=Lh_ hBA;have HN:=Lh_ hN;clear hc hcA hgrA hBA hbA hboxA hfrA hN;go_enter Tryz.func105,Tryz.ntmps105;go_wp2_with fail;refine (untilP_any s ⟨#[58,44,41]⟩ k b bad wA hs hk HCA.out HIX.out (by simp)).mono ?_;rintro e w1 ⟨rfl,hc1,hg1⟩;clear hwA;have hk1:=@afterP_le s ⟨#[58,44,41]⟩ k hk;have HK1:=Lh_ hk1;clear hk1;have hb1:=HBA.out.kept hg1 (fun e=>by have:=Option.some.inj e;omega);have HC1:=Lh_ hc1;have HB1:=Lh_ hb1;have HG1:=Lh_ (grown_trans HGRA.out hg1);have HSZ1:=Lh_ hg1.size;clear hc1 hg1 hb1;obtain ⟨kp,hkp⟩:∃ kp,pieceP s ⟨#[58,44,41]⟩ k=kp:=⟨_,rfl⟩;rw [hkp];have HKP:=Lh_ hkp;clear hkp;by_cases hq:kp=⟨#[]⟩
 ·
  have e1:kp.toList=[]:=by rw [hq];decide +kernel
  have hl:=HF1.out;rw [contP_none (HKP.out.trans hq)] at hl;have HL:=Lh_ hl;clear hl hq;obtain ⟨z0,z1,z2,z3,z4,z5,z6⟩:=s7_ HB1.out.1;have zf:=HB1.out.2.1;go_wp2;obtain ⟨q1,q2⟩:=fin_cur (.int .i64 0) (.string ByteArray.empty) (.string ByteArray.empty) (.int .i64 0) (.int .i64 0) (.int .i64 0) (.slice none 0 0) HC1.out HG1.out (show w.heap.size≠b by omega) (Nat.le_refl _);refine bodyPost_ret (v:=.agg #[.int .i64 0,.string ByteArray.empty,.string ByteArray.empty,.int .i64 0,.int .i64 0,.int .i64 0,.slice none 0 0]) (by simp [results,Tryz.results105,go_sem,z0,z1,z2,z3,z4,z5,z6]) rfl ⟨contCells 0 ByteArray.empty ByteArray.empty 0 0 0 none 0 0,.mk 0 ByteArray.empty ByteArray.empty 0 0 0 [],_,bad,rfl,?_,q1,q2,⟨HK1.out.2,HK1.out.1,by rw [nodesC,nodesL];have:=HK1.out.2;omega⟩,?_⟩
  ·
   unfold NewC
   rw [CRdS];exact ⟨none,0,rfl,⟨by unfold okInt;omega,by unfold maxLen;decide,by unfold maxLen;decide,by unfold okInt;omega,by unfold okInt;omega,by unfold okInt;omega⟩,Nat.le_refl _,by unfold maxLen;omega,fun h=>by simp at h⟩
  ·
   rw [HSPC.out,HL.out]
   cases bad
   ·
    rw [if_neg (by decide),if_neg (by decide)]
    try rfl
   · rw [if_pos rfl,if_pos rfl]
 have e1:¬ kp.toList=[]:=fun h=>hq ((empty_iff kp).1 h)
 have e1b:kp.toList.isEmpty=false:=by simpa using e1
 have HQ0:=Lh_ hq;clear hq;go_wp2_with fail;refine (want_any s ⟨#[58]⟩ _ b _ _ hs HK1.out.1 HC1.out).mono ?_;rintro e w2 ⟨rfl,hc2,hg2⟩;have hk2:=@skip_bound s ⟨#[58]⟩ (afterP s ⟨#[58,44,41]⟩ k) HK1.out.1;have hon2:(!skipB s (afterP s ⟨#[58,44,41]⟩ k) ⟨#[58]⟩ || bad)=false→bad=false∧k+1≤(if skipB s (afterP s ⟨#[58,44,41]⟩ k) ⟨#[58]⟩ then afterP s ⟨#[58,44,41]⟩ k+(⟨#[58]⟩:ByteArray).size else afterP s ⟨#[58,44,41]⟩ k):=by
  intro h;have h2:=HK1.out.2;have h3:(⟨#[58]⟩:ByteArray).size=1:=rfl;cases hq:skipB s (afterP s ⟨#[58,44,41]⟩ k) ⟨#[58]⟩ with
  | true=>rw [hq] at h;simp at h;exact ⟨h,by rw [if_pos rfl];omega⟩
  | false=>rw [hq] at h;simp at h
 obtain ⟨k2,hk2e⟩:∃ k2,(if skipB s (afterP s ⟨#[58,44,41]⟩ k) ⟨#[58]⟩ then afterP s ⟨#[58,44,41]⟩ k+(⟨#[58]⟩:ByteArray).size else afterP s ⟨#[58,44,41]⟩ k)=k2:=⟨_,rfl⟩;obtain ⟨bad2,hbad2e⟩:∃ bad2,(!skipB s (afterP s ⟨#[58,44,41]⟩ k) ⟨#[58]⟩ || bad)=bad2:=⟨_,rfl⟩;have hstep:∀ (R:Nat→Option (Cont × Nat)),(if bad then none else (wantP s ⟨#[58]⟩ (afterP s ⟨#[58,44,41]⟩ k)).bind R)=(if bad2 then none else R k2):=fun R=>by
  rw [step_want,hk2e,hbad2e]
 rw [hk2e] at hc2 hk2 hon2;rw [hbad2e] at hc2 hon2;have HSTEP:=Lh_ hstep;have HON2:=Lh_ hon2;have HK2:=Lh_ (show k≤k2∧k2≤s.size from ⟨by have:=HK1.out.2;omega,hk2.1⟩);have HB2:=Lh_ (HB1.out.kept hg2 (fun e=>by have:=Option.some.inj e;omega));have HC2:=Lh_ hc2;have HG2:=Lh_ (grown_trans HG1.out hg2);have HSZ2:=Lh_ (Nat.le_trans HSZ1.out hg2.size);clear hc2 hg2 hk2 hon2 hstep hk2e hbad2e HC1 HB1 HG1 HSZ1;go_wp2_with fail;refine (untilP_any s ⟨#[58,40,44,41]⟩ k2 b bad2 w2 hs HK2.out.2 HC2.out HIX.out (by simp)).mono ?_;rintro e w3 ⟨rfl,hc3,hg3⟩;have hk3:=@afterP_le s ⟨#[58,40,44,41]⟩ k2 HK2.out.2;have hil:=pieceP_le s ⟨#[58,40,44,41]⟩ k2;obtain ⟨i,hi⟩:∃ i,pieceP s ⟨#[58,40,44,41]⟩ k2=i:=⟨_,rfl⟩;rw [hi] at hil ⊢;have HI:=Lh_ hi;have HIL:=Lh_ hil;clear hi hil;have hb3:=HB2.out.kept hg3 (fun e=>by have:=Option.some.inj e;omega);have HSZ3:=Lh_ (show w.heap.size<w3.heap.size by have:=HSZ2.out;have:=hg3.size;omega);have HC3:=Lh_ hc3;have HG3:=Lh_ hg3;have HB3:=Lh_ hb3;have HK3:=Lh_ hk3;clear hc3 hg3 hb3 hk3;go_upto_region 6 with fail
 have hc3:=HC3.out;have hg3:=HG3.out;have hb3:=HB3.out;have hk3:=HK3.out;have hsz3:=HSZ3.out;obtain ⟨w4,hw4⟩:∃ w4,w3.alloc (.cells #[.int .i64 0,.string i,.string ByteArray.empty,.int .i64 0,.int .i64 0,.int .i64 0,.slice none 0 0] 72)=w4:=⟨_,rfl⟩;obtain ⟨hb4,hg4,-⟩:=box7 hw4;have hST:StP w b w.heap.size w3.heap.size s k bad w4 (afterP s ⟨#[58,40,44,41]⟩ k2) bad2 [.int .i64 0,.string i,.string ByteArray.empty,.int .i64 0,.int .i64 0,.int .i64 0,.slice none 0 0]:=by
  have hg34:w3.grownBy w4 none:=⟨hb4.os,hb4.tape,hb4.output,hb4.size,fun k hk _=>hb4.block k hk⟩;refine ⟨(hc3.below hb4).1,grown_below (grown_trans HG2.out hg3) hb4,⟨fun j u hu=>?_,box7f hw4,by omega⟩,hb3.kept hg34 (fun e=>by cases e),⟨by have:=HK2.out.1;omega,hk3.1,Nat.le_refl _,hsz3,hbw⟩,fun h=>⟨(HON2.out h).1,by have:=(HON2.out h).2;omega⟩⟩;rw [← hw4,World.cell?_alloc_at _ _ _ _ rfl];simpa using hu
 have HST:=Lh_ hST;rw [hw4];clear hw4 hST hc3 hg3 hb3 hb4 hg4 hk3 hsz3 HC3 HG3 HB3 HK3 hgA HC2 HB2 HG2 HSZ2 HON2;by_cases hq:kp=⟨#[102,115]⟩
 ·
  have efs:(kp.toList == [102,115])=true:=by rw [hq];decide +kernel
  have hl:=HF1.out;rw [contP_fs (HKP.out.trans hq)] at hl;have hl2:=hl.trans (HSTEP.out _);rw [HI.out] at hl2;have HSP0:=Lh_ hl2;have HST0:=HST;clear hl hl2 hq;go_wp2_with fail;refine (want_any s ⟨#[58]⟩ _ b _ _ hs HST0.out.2.2.2.2.1.2.1 HST0.out.1).mono ?_;rintro e' wq1 ⟨rfl,hcq,hgq⟩;have HST1:=Lh_ (HST0.out.go hcq hgq ((@skip_bound s ⟨#[58]⟩ _ HST0.out.2.2.2.2.1.2.1).symm) or_false_r);have HSP1:=Lh_ (HSP0.out.trans (step_want s ⟨#[58]⟩ _ _ _));clear hcq hgq HST0 HSP0;go_wp2_with fail;refine (untilP_any s ⟨#[44,41]⟩ _ b _ _ hs HST1.out.2.2.2.2.1.2.1 HST1.out.1 HIX.out (by simp)).mono ?_;rintro e' w9 ⟨rfl,hcq,hgq⟩;obtain ⟨l,hl⟩:∃ l,pieceP s ⟨#[44,41]⟩ (if skipB s (afterP s ⟨#[58,40,44,41]⟩ k2) ⟨#[58]⟩ then afterP s ⟨#[58,40,44,41]⟩ k2+(⟨#[58]⟩:ByteArray).size else afterP s ⟨#[58,40,44,41]⟩ k2)=l:=⟨_,rfl⟩;have hll:l.size≤s.size:=by rw [← hl];exact pieceP_le _ _ _
  have hkl:=@afterP_le s ⟨#[44,41]⟩ _ HST1.out.2.2.2.2.1.2.1;have hst9:=HST1.out.go hcq hgq hkl.symm (fun h=>h);have hsp9:=HSP1.out;rw [hl] at hsp9 ⊢;have HLL:=Lh_ hll;have HSP9:=Lh_ hsp9;have HST9:=Lh_ hst9;have HHL:=Lh_ hl;clear hll hsp9 hst9 hl hcq hgq hkl HST1 HSP1;obtain ⟨xq1,xq2,xq3,xq4,xq5,xq6⟩:=HST9.out;obtain ⟨hgr1,hgr2,hgr3,hgr4,hgr5⟩:=xq5;obtain ⟨x0,x1,x2,x3,x4,x5,x6⟩:=s7_ xq3.1;have xf:=xq3.2.1;obtain ⟨y0,y1,y2,y3,y4,y5,y6⟩:=s7_ xq4.1;have yf:=xq4.2.1;have hc9s:=(xq1.set_ (g:=w3.heap.size) (j:=0) (by omega) (.int .i64 1)).set_ (g:=w3.heap.size) (j:=2) (by omega) (.string l);have hg9s:=grown_set (g:=w3.heap.size) (j:=2) (grown_set (g:=w3.heap.size) (j:=0) xq2 (by omega) (.int .i64 1)) (by omega) (.string l);obtain ⟨q1,q2⟩:=fin_cur (.int .i64 1) (.string i) (.string l) (.int .i64 0) (.int .i64 0) (.int .i64 0) (.slice none 0 0) hc9s hg9s (show w.heap.size≠b by omega) (Nat.le_refl _);have HQ1:=Lh_ q1;have HQ2:=Lh_ q2;have HGR1:=Lh_ hgr1;have HGR2:=Lh_ hgr2;clear q1 q2 hc9s hg9s xq1 xq2 xq3 xq4 xq6 hgr1 hgr2;go_wp2;refine bodyPost_ret (v:=.agg #[.int .i64 1,.string i,.string l,.int .i64 0,.int .i64 0,.int .i64 0,.slice none 0 0]) (by simp [results,Tryz.results105,go_sem,y0,y1,y2,y3,y4,y5,y6]) rfl ⟨contCells 1 i l 0 0 0 none 0 0,.mk 1 i l 0 0 0 [],_,_,rfl,?_,HQ1.out,HQ2.out,⟨HGR1.out,HGR2.out,by rw [nodesC,nodesL];have:=HGR1.out;omega⟩,?_⟩
  ·
   unfold NewC
   rw [CRdS];exact ⟨none,0,rfl,⟨by unfold okInt;omega,by unfold maxLen;have:=HIL.out;omega,by unfold maxLen;have:=HLL.out;omega,by unfold okInt;omega,by unfold okInt;omega,by unfold okInt;omega⟩,Nat.le_refl _,by unfold maxLen;omega,fun h=>by simp at h⟩
  · rw [HSPC.out];exact HSP9.out
 have efs:(kp.toList == [102,115])=false:=by rw [show ([102,115]:List UInt8)=(⟨#[102,115]⟩:ByteArray).toList from by decide +kernel,ba_beq];exact decide_eq_false hq
 have HQfs:=Lh_ hq;clear hq;by_cases hq:kp=⟨#[114,97,105,100]⟩
 ·
  have eraid:(kp.toList == [114,97,105,100])=true:=by rw [hq];decide +kernel
  have hl:=HF1.out;rw [contP_raid (HKP.out.trans hq)] at hl;have hl2:=hl.trans (HSTEP.out _);rw [HI.out] at hl2;have HSP0:=Lh_ hl2;have HST0:=HST;clear hl hl2 hq;go_wp2_with fail;refine (want_any s ⟨#[58]⟩ _ b _ _ hs HST0.out.2.2.2.2.1.2.1 HST0.out.1).mono ?_;rintro e' wq1 ⟨rfl,hcq,hgq⟩;have HST1:=Lh_ (HST0.out.go hcq hgq ((@skip_bound s ⟨#[58]⟩ _ HST0.out.2.2.2.2.1.2.1).symm) or_false_r);have HSP1:=Lh_ (HSP0.out.trans (step_want s ⟨#[58]⟩ _ _ _));clear hcq hgq HST0 HSP0;go_wp2_with fail;refine (c7number_any s _ b _ _ hs HST1.out.2.2.2.2.1.2.1 HST1.out.1 HIX.out (HOK.out.grown HST1.out.2.1 HGB.out) HGB.out).mono ?_;rintro e' wq2 ⟨n2,rfl,hnq,hcq,hgq,hmq⟩;have HST2:=Lh_ (HST1.out.go hcq hgq ((@afterP_le s slashE _ HST1.out.2.2.2.2.1.2.1).symm) or_false_l);have HSP2:=Lh_ (HSP1.out.trans (step_num s _ _ _ n2 hmq));have HNB2:=Lh_ hnq;clear hcq hgq hnq hmq HST1 HSP1;obtain ⟨xb1,xb2,xb3,xb4,xb5,xb6⟩:=HST2.out;obtain ⟨x0,x1,x2,x3,x4,x5,x6⟩:=s7_ xb3.1;have xf:=xb3.2.1;clear xb1 xb2 xb3 xb4 xb5 xb6;go_wp2_with fail;clear x0 x1 x2 x3 x4 x5 x6 xf;have HST3:=Lh_ ((HST2.out.set_ (j:=0) (by simp) (.int .i64 2)).set_ (j:=3) (by simp) (.int .i64 n2));have HSP3:=HSP2;clear HST2 HSP2;simp only [List.set_cons_zero,List.set_cons_succ] at HST3;refine (want_any s ⟨#[47]⟩ _ b _ _ hs HST3.out.2.2.2.2.1.2.1 HST3.out.1).mono ?_;rintro e' wq4 ⟨rfl,hcq,hgq⟩;have HST4:=Lh_ (HST3.out.go hcq hgq ((@skip_bound s ⟨#[47]⟩ _ HST3.out.2.2.2.2.1.2.1).symm) or_false_r);have HSP4:=Lh_ (HSP3.out.trans (step_want s ⟨#[47]⟩ _ _ _));clear hcq hgq HST3 HSP3;go_wp2_with fail;refine (c7number_any s _ b _ _ hs HST4.out.2.2.2.2.1.2.1 HST4.out.1 HIX.out (HOK.out.grown HST4.out.2.1 HGB.out) HGB.out).mono ?_;rintro e' wq5 ⟨n5,rfl,hnq,hcq,hgq,hmq⟩;have HST5:=Lh_ (HST4.out.go hcq hgq ((@afterP_le s slashE _ HST4.out.2.2.2.2.1.2.1).symm) or_false_l);have HSP5:=Lh_ (HSP4.out.trans (step_num s _ _ _ n5 hmq));have HNB5:=Lh_ hnq;clear hcq hgq hnq hmq HST4 HSP4;obtain ⟨xb1,xb2,xb3,xb4,xb5,xb6⟩:=HST5.out;obtain ⟨x0,x1,x2,x3,x4,x5,x6⟩:=s7_ xb3.1;have xf:=xb3.2.1;clear xb1 xb2 xb3 xb4 xb5 xb6;go_wp2_with fail;clear x0 x1 x2 x3 x4 x5 x6 xf;have HST6:=Lh_ (HST5.out.set_ (j:=4) (by simp) (.int .i64 n5));have HSP6:=HSP5;clear HST5 HSP5;simp only [List.set_cons_zero,List.set_cons_succ] at HST6;refine (want_any s ⟨#[47]⟩ _ b _ _ hs HST6.out.2.2.2.2.1.2.1 HST6.out.1).mono ?_;rintro e' wq7 ⟨rfl,hcq,hgq⟩;have HST7:=Lh_ (HST6.out.go hcq hgq ((@skip_bound s ⟨#[47]⟩ _ HST6.out.2.2.2.2.1.2.1).symm) or_false_r);have HSP7:=Lh_ (HSP6.out.trans (step_want s ⟨#[47]⟩ _ _ _));clear hcq hgq HST6 HSP6
  go_wp2_with fail;refine (c7number_any s _ b _ _ hs HST7.out.2.2.2.2.1.2.1 HST7.out.1 HIX.out (HOK.out.grown HST7.out.2.1 HGB.out) HGB.out).mono ?_;rintro e' wq8 ⟨n8,rfl,hnq,hcq,hgq,hmq⟩;have HST8:=Lh_ (HST7.out.go hcq hgq ((@afterP_le s slashE _ HST7.out.2.2.2.2.1.2.1).symm) or_false_l);have HSP8:=Lh_ (HSP7.out.trans (step_num s _ _ _ n8 hmq));have HNB8:=Lh_ hnq;clear hcq hgq hnq hmq HST7 HSP7;obtain ⟨xb1,xb2,xb3,xb4,xb5,xb6⟩:=HST8.out;obtain ⟨x0,x1,x2,x3,x4,x5,x6⟩:=s7_ xb3.1;have xf:=xb3.2.1;clear xb1 xb2 xb3 xb4 xb5 xb6;go_wp2_with fail;clear x0 x1 x2 x3 x4 x5 x6 xf;have HST9:=Lh_ (HST8.out.set_ (j:=5) (by simp) (.int .i64 n8));have HSP9:=HSP8;clear HST8 HSP8;simp only [List.set_cons_zero,List.set_cons_succ] at HST9;have hfi:∀ bad9 k9,(bad9=false→bad=false∧k+1≤k9)→bad9=false→s.size<N+(k9+1)∧s.size+1<f'+(k9+1):=fun bad9 k9 h1 h2=>by
   obtain ⟨h3,h4⟩:=h1 h2;have:=HF2.out h3;have:=HN.out;exact ⟨by omega,by omega⟩
  have HFI:=Lh_ hfi;clear hfi;refine (inner_any s hs N HH.out _ f' _ b _ HST9.out.2.2.2.2.1.2.1 (HFI.out _ _ HST9.out.2.2.2.2.2) HST9.out.1 (HOK.out.grown HST9.out.2.1 HGB.out) HGB.out).mono ?_;rintro e' w9 ⟨A9,c9,xs9,k9,bad9,rfl,hnew9,hc9,hg9,hbd9,hsp9⟩;have HNODE:=Lh_ (show k≤k9∧k9≤s.size∧nodesL xs9+k≤k9 by have:=HST9.out.2.2.2.2.1.1;omega);have hin9:InS w9 (w3.heap.size+1) A9 c9 xs9:=by
   have hle:=HST9.out.2.2.1.2.2;obtain ⟨q1,q2,q3⟩:=hnew9;refine ⟨q1,q2,fun hn=>?_⟩;obtain ⟨bb,o,hA,hbb,hcs⟩:=q3 hn;exact ⟨bb,o,hA,⟨by omega,hbb.2⟩,CsAtS_mono (fun y hy=>⟨by have:=hy.1;omega,hy.2⟩) (fun _ _ _ _ hu=>hu) bb hbb xs9 o hcs⟩
  have HSP9:=Lh_ (HSP9.out.trans (step_inner s f' _ _ _ xs9 k9 _ hsp9));obtain ⟨xq1,xq2,xq3,xq4,xq5,xq6⟩:=HST9.out;obtain ⟨hgr1,hgr2,hgr3,hgr4,hgr5⟩:=xq5;have hbx:=xq3.kept hg9 (fun e=>by have:=Option.some.inj e;omega);have hbr:=xq4.kept hg9 (fun e=>by have:=Option.some.inj e;omega);have HG9:=Lh_ (grown_trans xq2 hg9);clear xq1 xq2 xq3 xq4 xq6 hgr1 hgr2 HST9 hnew9 hsp9 hg9 hbd9;have HIN9:=Lh_ hin9;have HC9:=Lh_ hc9;have HBX:=Lh_ hbx;have HBR:=Lh_ hbr;obtain ⟨x0,x1,x2,x3,x4,x5,x6⟩:=s7_ hbx.1;have xf:=hbx.2.1;obtain ⟨y0,y1,y2,y3,y4,y5,y6⟩:=s7_ hbr.1;have yf:=hbr.2.1;clear hin9 hc9 hbx hbr;have hc9s:=HC9.out.set_ (g:=w3.heap.size) (j:=6) (by omega) (.slice A9 xs9.length c9);have hg9s:=grown_set (g:=w3.heap.size) (j:=6) HG9.out (by omega) (.slice A9 xs9.length c9);obtain ⟨q1,q2⟩:=fin_cur (.int .i64 2) (.string i) (.string ByteArray.empty) (.int .i64 n2) (.int .i64 n5) (.int .i64 n8) (.slice A9 xs9.length c9) hc9s hg9s (show w.heap.size≠b by omega) (Nat.le_refl _);have hin:=HIN9.out.set_ (g:=w3.heap.size) (j:=6) (by omega) (.slice A9 xs9.length c9);have hin:=hin.set_ (g:=w.heap.size) (j:=0) (by omega) (.int .i64 2);have hin:=hin.set_ (g:=w.heap.size) (j:=1) (by omega) (.string i);have hin:=hin.set_ (g:=w.heap.size) (j:=2) (by omega) (.string ByteArray.empty);have hin:=hin.set_ (g:=w.heap.size) (j:=3) (by omega) (.int .i64 n2);have hin:=hin.set_ (g:=w.heap.size) (j:=4) (by omega) (.int .i64 n5);have hin:=hin.set_ (g:=w.heap.size) (j:=5) (by omega) (.int .i64 n8);have hin:=hin.set_ (g:=w.heap.size) (j:=6) (by omega) (.slice A9 xs9.length c9);have HIN:=Lh_ hin;have HQ1:=Lh_ q1;have HQ2:=Lh_ q2;clear hin q1 q2 hc9s hg9s;go_wp2;refine bodyPost_ret (v:=.agg #[.int .i64 2,.string i,.string ByteArray.empty,.int .i64 n2,.int .i64 n5,.int .i64 n8,.slice A9 xs9.length c9]) (by simp [results,Tryz.results105,go_sem,y0,y1,y2,y3,y4,y5,y6]) rfl ⟨contCells 2 i ByteArray.empty n2 n5 n8 A9 xs9.length c9,.mk 2 i ByteArray.empty n2 n5 n8 xs9,k9,bad9,rfl,?_,HQ1.out,HQ2.out,⟨HNODE.out.1,HNODE.out.2.1,by rw [nodesC];have:=HNODE.out.2.2;omega⟩,?_⟩
  ·
   unfold NewC
   rw [CRdS];obtain ⟨r1,r2,r3⟩:=HIN.out;refine ⟨A9,c9,rfl,⟨by unfold okInt;omega,by unfold maxLen;have:=HIL.out;omega,by unfold maxLen;decide,HNB2.out,HNB5.out,HNB8.out⟩,r1,r2,fun hn=>?_⟩;obtain ⟨bb,o,hA,hbb,hcs⟩:=r3 hn;exact ⟨bb,o,hA,⟨by omega,hbb.2⟩,CsAtS_mono (fun y hy=>⟨by have:=hy.1;omega,hy.2⟩) (fun _ _ _ _ hu=>hu) bb hbb xs9 o hcs⟩
  · rw [HSPC.out];exact HSP9.out
 have eraid:(kp.toList == [114,97,105,100])=false:=by rw [show ([114,97,105,100]:List UInt8)=(⟨#[114,97,105,100]⟩:ByteArray).toList from by decide +kernel,ba_beq];exact decide_eq_false hq
 have HQraid:=Lh_ hq;clear hq;by_cases hq:kp=⟨#[99,114,121,112,116]⟩
 ·
  have ecrypt:(kp.toList == [99,114,121,112,116])=true:=by rw [hq];decide +kernel
  have hl:=HF1.out;rw [contP_crypt (HKP.out.trans hq)] at hl;have hl2:=hl.trans (HSTEP.out _);rw [HI.out] at hl2;have HSP0:=Lh_ hl2;have HST0:=HST;clear hl hl2 hq;obtain ⟨xb1,xb2,xb3,xb4,xb5,xb6⟩:=HST0.out;obtain ⟨x0,x1,x2,x3,x4,x5,x6⟩:=s7_ xb3.1;have xf:=xb3.2.1;clear xb1 xb2 xb3 xb4 xb5 xb6;go_wp2_with fail;clear x0 x1 x2 x3 x4 x5 x6 xf;have HST1:=Lh_ (HST0.out.set_ (j:=0) (by simp) (.int .i64 3));have HSP1:=HSP0;clear HST0 HSP0;simp only [List.set_cons_zero,List.set_cons_succ] at HST1;have hfi:∀ bad9 k9,(bad9=false→bad=false∧k+1≤k9)→bad9=false→s.size<N+(k9+1)∧s.size+1<f'+(k9+1):=fun bad9 k9 h1 h2=>by
   obtain ⟨h3,h4⟩:=h1 h2;have:=HF2.out h3;have:=HN.out;exact ⟨by omega,by omega⟩
  have HFI:=Lh_ hfi;clear hfi;refine (inner_any s hs N HH.out _ f' _ b _ HST1.out.2.2.2.2.1.2.1 (HFI.out _ _ HST1.out.2.2.2.2.2) HST1.out.1 (HOK.out.grown HST1.out.2.1 HGB.out) HGB.out).mono ?_;rintro e' w9 ⟨A9,c9,xs9,k9,bad9,rfl,hnew9,hc9,hg9,hbd9,hsp9⟩;have HNODE:=Lh_ (show k≤k9∧k9≤s.size∧nodesL xs9+k≤k9 by have:=HST1.out.2.2.2.2.1.1;omega);have hin9:InS w9 (w3.heap.size+1) A9 c9 xs9:=by
   have hle:=HST1.out.2.2.1.2.2;obtain ⟨q1,q2,q3⟩:=hnew9;refine ⟨q1,q2,fun hn=>?_⟩;obtain ⟨bb,o,hA,hbb,hcs⟩:=q3 hn;exact ⟨bb,o,hA,⟨by omega,hbb.2⟩,CsAtS_mono (fun y hy=>⟨by have:=hy.1;omega,hy.2⟩) (fun _ _ _ _ hu=>hu) bb hbb xs9 o hcs⟩
  have HSP9:=Lh_ (HSP1.out.trans (step_inner s f' _ _ _ xs9 k9 _ hsp9));obtain ⟨xq1,xq2,xq3,xq4,xq5,xq6⟩:=HST1.out;obtain ⟨hgr1,hgr2,hgr3,hgr4,hgr5⟩:=xq5;have hbx:=xq3.kept hg9 (fun e=>by have:=Option.some.inj e;omega);have hbr:=xq4.kept hg9 (fun e=>by have:=Option.some.inj e;omega);have HG9:=Lh_ (grown_trans xq2 hg9);clear xq1 xq2 xq3 xq4 xq6 hgr1 hgr2 HST1 hnew9 hsp9 hg9 hbd9;have HIN9:=Lh_ hin9;have HC9:=Lh_ hc9;have HBX:=Lh_ hbx;have HBR:=Lh_ hbr;obtain ⟨x0,x1,x2,x3,x4,x5,x6⟩:=s7_ hbx.1;have xf:=hbx.2.1;obtain ⟨y0,y1,y2,y3,y4,y5,y6⟩:=s7_ hbr.1;have yf:=hbr.2.1;clear hin9 hc9 hbx hbr;have hc9s:=HC9.out.set_ (g:=w3.heap.size) (j:=6) (by omega) (.slice A9 xs9.length c9);have hg9s:=grown_set (g:=w3.heap.size) (j:=6) HG9.out (by omega) (.slice A9 xs9.length c9);obtain ⟨q1,q2⟩:=fin_cur (.int .i64 3) (.string i) (.string ByteArray.empty) (.int .i64 0) (.int .i64 0) (.int .i64 0) (.slice A9 xs9.length c9) hc9s hg9s (show w.heap.size≠b by omega) (Nat.le_refl _);have hin:=HIN9.out.set_ (g:=w3.heap.size) (j:=6) (by omega) (.slice A9 xs9.length c9);have hin:=hin.set_ (g:=w.heap.size) (j:=0) (by omega) (.int .i64 3);have hin:=hin.set_ (g:=w.heap.size) (j:=1) (by omega) (.string i);have hin:=hin.set_ (g:=w.heap.size) (j:=2) (by omega) (.string ByteArray.empty);have hin:=hin.set_ (g:=w.heap.size) (j:=3) (by omega) (.int .i64 0);have hin:=hin.set_ (g:=w.heap.size) (j:=4) (by omega) (.int .i64 0);have hin:=hin.set_ (g:=w.heap.size) (j:=5) (by omega) (.int .i64 0);have hin:=hin.set_ (g:=w.heap.size) (j:=6) (by omega) (.slice A9 xs9.length c9);have HIN:=Lh_ hin;have HQ1:=Lh_ q1;have HQ2:=Lh_ q2;clear hin q1 q2 hc9s hg9s;go_wp2;refine bodyPost_ret (v:=.agg #[.int .i64 3,.string i,.string ByteArray.empty,.int .i64 0,.int .i64 0,.int .i64 0,.slice A9 xs9.length c9]) (by simp [results,Tryz.results105,go_sem,y0,y1,y2,y3,y4,y5,y6]) rfl ⟨contCells 3 i ByteArray.empty 0 0 0 A9 xs9.length c9,.mk 3 i ByteArray.empty 0 0 0 xs9,k9,bad9,rfl,?_,HQ1.out,HQ2.out,⟨HNODE.out.1,HNODE.out.2.1,by rw [nodesC];have:=HNODE.out.2.2;omega⟩,?_⟩
  ·
   unfold NewC
   rw [CRdS];obtain ⟨r1,r2,r3⟩:=HIN.out;refine ⟨A9,c9,rfl,⟨by unfold okInt;omega,by unfold maxLen;have:=HIL.out;omega,by unfold maxLen;decide,by unfold okInt;omega,by unfold okInt;omega,by unfold okInt;omega⟩,r1,r2,fun hn=>?_⟩;obtain ⟨bb,o,hA,hbb,hcs⟩:=r3 hn;exact ⟨bb,o,hA,⟨by omega,hbb.2⟩,CsAtS_mono (fun y hy=>⟨by have:=hy.1;omega,hy.2⟩) (fun _ _ _ _ hu=>hu) bb hbb xs9 o hcs⟩
  · rw [HSPC.out];exact HSP9.out
 have ecrypt:(kp.toList == [99,114,121,112,116])=false:=by rw [show ([99,114,121,112,116]:List UInt8)=(⟨#[99,114,121,112,116]⟩:ByteArray).toList from by decide +kernel,ba_beq];exact decide_eq_false hq
 have HQcrypt:=Lh_ hq;clear hq;by_cases hq:kp=⟨#[112,118]⟩
 ·
  have epv:(kp.toList == [112,118])=true:=by rw [hq];decide +kernel
  have hl:=HF1.out;rw [contP_pv (HKP.out.trans hq)] at hl;have hl2:=hl.trans (HSTEP.out _);rw [HI.out] at hl2;have HSP0:=Lh_ hl2;have HST0:=HST;clear hl hl2 hq;go_wp2_with fail;refine (want_any s ⟨#[58]⟩ _ b _ _ hs HST0.out.2.2.2.2.1.2.1 HST0.out.1).mono ?_;rintro e' wq1 ⟨rfl,hcq,hgq⟩;have HST1:=Lh_ (HST0.out.go hcq hgq ((@skip_bound s ⟨#[58]⟩ _ HST0.out.2.2.2.2.1.2.1).symm) or_false_r);have HSP1:=Lh_ (HSP0.out.trans (step_want s ⟨#[58]⟩ _ _ _));clear hcq hgq HST0 HSP0;go_wp2_with fail;refine (c7number_any s _ b _ _ hs HST1.out.2.2.2.2.1.2.1 HST1.out.1 HIX.out (HOK.out.grown HST1.out.2.1 HGB.out) HGB.out).mono ?_;rintro e' wq2 ⟨n2,rfl,hnq,hcq,hgq,hmq⟩;have HST2:=Lh_ (HST1.out.go hcq hgq ((@afterP_le s slashE _ HST1.out.2.2.2.2.1.2.1).symm) or_false_l);have HSP2:=Lh_ (HSP1.out.trans (step_num s _ _ _ n2 hmq));have HNB2:=Lh_ hnq;clear hcq hgq hnq hmq HST1 HSP1;obtain ⟨xb1,xb2,xb3,xb4,xb5,xb6⟩:=HST2.out;obtain ⟨x0,x1,x2,x3,x4,x5,x6⟩:=s7_ xb3.1;have xf:=xb3.2.1;clear xb1 xb2 xb3 xb4 xb5 xb6;go_wp2_with fail;clear x0 x1 x2 x3 x4 x5 x6 xf;have HST3:=Lh_ ((HST2.out.set_ (j:=0) (by simp) (.int .i64 4)).set_ (j:=3) (by simp) (.int .i64 n2));have HSP3:=HSP2;clear HST2 HSP2;simp only [List.set_cons_zero,List.set_cons_succ] at HST3;refine (want_any s ⟨#[47]⟩ _ b _ _ hs HST3.out.2.2.2.2.1.2.1 HST3.out.1).mono ?_;rintro e' wq4 ⟨rfl,hcq,hgq⟩;have HST4:=Lh_ (HST3.out.go hcq hgq ((@skip_bound s ⟨#[47]⟩ _ HST3.out.2.2.2.2.1.2.1).symm) or_false_r);have HSP4:=Lh_ (HSP3.out.trans (step_want s ⟨#[47]⟩ _ _ _));clear hcq hgq HST3 HSP3;go_wp2_with fail;refine (c7number_any s _ b _ _ hs HST4.out.2.2.2.2.1.2.1 HST4.out.1 HIX.out (HOK.out.grown HST4.out.2.1 HGB.out) HGB.out).mono ?_;rintro e' wq5 ⟨n5,rfl,hnq,hcq,hgq,hmq⟩;have HST5:=Lh_ (HST4.out.go hcq hgq ((@afterP_le s slashE _ HST4.out.2.2.2.2.1.2.1).symm) or_false_l);have HSP5:=Lh_ (HSP4.out.trans (step_num s _ _ _ n5 hmq));have HNB5:=Lh_ hnq;clear hcq hgq hnq hmq HST4 HSP4;obtain ⟨xb1,xb2,xb3,xb4,xb5,xb6⟩:=HST5.out;obtain ⟨x0,x1,x2,x3,x4,x5,x6⟩:=s7_ xb3.1;have xf:=xb3.2.1;clear xb1 xb2 xb3 xb4 xb5 xb6;go_wp2_with fail;clear x0 x1 x2 x3 x4 x5 x6 xf;have HST6:=Lh_ (HST5.out.set_ (j:=4) (by simp) (.int .i64 n5));have HSP6:=HSP5;clear HST5 HSP5;simp only [List.set_cons_zero,List.set_cons_succ] at HST6;have hfi:∀ bad9 k9,(bad9=false→bad=false∧k+1≤k9)→bad9=false→s.size<N+(k9+1)∧s.size+1<f'+(k9+1):=fun bad9 k9 h1 h2=>by
   obtain ⟨h3,h4⟩:=h1 h2;have:=HF2.out h3;have:=HN.out;exact ⟨by omega,by omega⟩
  have HFI:=Lh_ hfi;clear hfi;refine (inner_any s hs N HH.out _ f' _ b _ HST6.out.2.2.2.2.1.2.1 (HFI.out _ _ HST6.out.2.2.2.2.2) HST6.out.1 (HOK.out.grown HST6.out.2.1 HGB.out) HGB.out).mono ?_;rintro e' w9 ⟨A9,c9,xs9,k9,bad9,rfl,hnew9,hc9,hg9,hbd9,hsp9⟩;have HNODE:=Lh_ (show k≤k9∧k9≤s.size∧nodesL xs9+k≤k9 by have:=HST6.out.2.2.2.2.1.1;omega);have hin9:InS w9 (w3.heap.size+1) A9 c9 xs9:=by
   have hle:=HST6.out.2.2.1.2.2;obtain ⟨q1,q2,q3⟩:=hnew9;refine ⟨q1,q2,fun hn=>?_⟩;obtain ⟨bb,o,hA,hbb,hcs⟩:=q3 hn;exact ⟨bb,o,hA,⟨by omega,hbb.2⟩,CsAtS_mono (fun y hy=>⟨by have:=hy.1;omega,hy.2⟩) (fun _ _ _ _ hu=>hu) bb hbb xs9 o hcs⟩
  have HSP9:=Lh_ (HSP6.out.trans (step_inner s f' _ _ _ xs9 k9 _ hsp9));obtain ⟨xq1,xq2,xq3,xq4,xq5,xq6⟩:=HST6.out;obtain ⟨hgr1,hgr2,hgr3,hgr4,hgr5⟩:=xq5;have hbx:=xq3.kept hg9 (fun e=>by have:=Option.some.inj e;omega);have hbr:=xq4.kept hg9 (fun e=>by have:=Option.some.inj e;omega);have HG9:=Lh_ (grown_trans xq2 hg9);clear xq1 xq2 xq3 xq4 xq6 hgr1 hgr2 HST6 hnew9 hsp9 hg9 hbd9;have HIN9:=Lh_ hin9;have HC9:=Lh_ hc9;have HBX:=Lh_ hbx;have HBR:=Lh_ hbr;obtain ⟨x0,x1,x2,x3,x4,x5,x6⟩:=s7_ hbx.1;have xf:=hbx.2.1;obtain ⟨y0,y1,y2,y3,y4,y5,y6⟩:=s7_ hbr.1;have yf:=hbr.2.1;clear hin9 hc9 hbx hbr;have hc9s:=HC9.out.set_ (g:=w3.heap.size) (j:=6) (by omega) (.slice A9 xs9.length c9);have hg9s:=grown_set (g:=w3.heap.size) (j:=6) HG9.out (by omega) (.slice A9 xs9.length c9);obtain ⟨q1,q2⟩:=fin_cur (.int .i64 4) (.string i) (.string ByteArray.empty) (.int .i64 n2) (.int .i64 n5) (.int .i64 0) (.slice A9 xs9.length c9) hc9s hg9s (show w.heap.size≠b by omega) (Nat.le_refl _);have hin:=HIN9.out.set_ (g:=w3.heap.size) (j:=6) (by omega) (.slice A9 xs9.length c9);have hin:=hin.set_ (g:=w.heap.size) (j:=0) (by omega) (.int .i64 4);have hin:=hin.set_ (g:=w.heap.size) (j:=1) (by omega) (.string i);have hin:=hin.set_ (g:=w.heap.size) (j:=2) (by omega) (.string ByteArray.empty);have hin:=hin.set_ (g:=w.heap.size) (j:=3) (by omega) (.int .i64 n2);have hin:=hin.set_ (g:=w.heap.size) (j:=4) (by omega) (.int .i64 n5);have hin:=hin.set_ (g:=w.heap.size) (j:=5) (by omega) (.int .i64 0);have hin:=hin.set_ (g:=w.heap.size) (j:=6) (by omega) (.slice A9 xs9.length c9);have HIN:=Lh_ hin;have HQ1:=Lh_ q1;have HQ2:=Lh_ q2;clear hin q1 q2 hc9s hg9s;go_wp2;refine bodyPost_ret (v:=.agg #[.int .i64 4,.string i,.string ByteArray.empty,.int .i64 n2,.int .i64 n5,.int .i64 0,.slice A9 xs9.length c9]) (by simp [results,Tryz.results105,go_sem,y0,y1,y2,y3,y4,y5,y6]) rfl ⟨contCells 4 i ByteArray.empty n2 n5 0 A9 xs9.length c9,.mk 4 i ByteArray.empty n2 n5 0 xs9,k9,bad9,rfl,?_,HQ1.out,HQ2.out,⟨HNODE.out.1,HNODE.out.2.1,by rw [nodesC];have:=HNODE.out.2.2;omega⟩,?_⟩
  ·
   unfold NewC
   rw [CRdS];obtain ⟨r1,r2,r3⟩:=HIN.out;refine ⟨A9,c9,rfl,⟨by unfold okInt;omega,by unfold maxLen;have:=HIL.out;omega,by unfold maxLen;decide,HNB2.out,HNB5.out,by unfold okInt;omega⟩,r1,r2,fun hn=>?_⟩;obtain ⟨bb,o,hA,hbb,hcs⟩:=r3 hn;exact ⟨bb,o,hA,⟨by omega,hbb.2⟩,CsAtS_mono (fun y hy=>⟨by have:=hy.1;omega,hy.2⟩) (fun _ _ _ _ hu=>hu) bb hbb xs9 o hcs⟩
  · rw [HSPC.out];exact HSP9.out
 have epv:(kp.toList == [112,118])=false:=by rw [show ([112,118]:List UInt8)=(⟨#[112,118]⟩:ByteArray).toList from by decide +kernel,ba_beq];exact decide_eq_false hq
 have HQpv:=Lh_ hq;clear hq;by_cases hq:kp=⟨#[116,97,98,108,101]⟩
 ·
  have etable:(kp.toList == [116,97,98,108,101])=true:=by rw [hq];decide +kernel
  have hl:=HF1.out;rw [contP_table (HKP.out.trans hq)] at hl;have hl2:=hl.trans (HSTEP.out _);rw [HI.out] at hl2;have HSP0:=Lh_ hl2;have HST0:=HST;clear hl hl2 hq;obtain ⟨xb1,xb2,xb3,xb4,xb5,xb6⟩:=HST0.out;obtain ⟨x0,x1,x2,x3,x4,x5,x6⟩:=s7_ xb3.1;have xf:=xb3.2.1;clear xb1 xb2 xb3 xb4 xb5 xb6;go_wp2_with fail;clear x0 x1 x2 x3 x4 x5 x6 xf;have HST1:=Lh_ (HST0.out.set_ (j:=0) (by simp) (.int .i64 5));have HSP1:=HSP0;clear HST0 HSP0;simp only [List.set_cons_zero,List.set_cons_succ] at HST1;have hfi:∀ bad9 k9,(bad9=false→bad=false∧k+1≤k9)→bad9=false→s.size<N+(k9+1)∧s.size+1<f'+(k9+1):=fun bad9 k9 h1 h2=>by
   obtain ⟨h3,h4⟩:=h1 h2;have:=HF2.out h3;have:=HN.out;exact ⟨by omega,by omega⟩
  have HFI:=Lh_ hfi;clear hfi;refine (inner_any s hs N HH.out _ f' _ b _ HST1.out.2.2.2.2.1.2.1 (HFI.out _ _ HST1.out.2.2.2.2.2) HST1.out.1 (HOK.out.grown HST1.out.2.1 HGB.out) HGB.out).mono ?_;rintro e' w9 ⟨A9,c9,xs9,k9,bad9,rfl,hnew9,hc9,hg9,hbd9,hsp9⟩;have HNODE:=Lh_ (show k≤k9∧k9≤s.size∧nodesL xs9+k≤k9 by have:=HST1.out.2.2.2.2.1.1;omega);have hin9:InS w9 (w3.heap.size+1) A9 c9 xs9:=by
   have hle:=HST1.out.2.2.1.2.2;obtain ⟨q1,q2,q3⟩:=hnew9;refine ⟨q1,q2,fun hn=>?_⟩;obtain ⟨bb,o,hA,hbb,hcs⟩:=q3 hn;exact ⟨bb,o,hA,⟨by omega,hbb.2⟩,CsAtS_mono (fun y hy=>⟨by have:=hy.1;omega,hy.2⟩) (fun _ _ _ _ hu=>hu) bb hbb xs9 o hcs⟩
  have HSP9:=Lh_ (HSP1.out.trans (step_inner s f' _ _ _ xs9 k9 _ hsp9));obtain ⟨xq1,xq2,xq3,xq4,xq5,xq6⟩:=HST1.out;obtain ⟨hgr1,hgr2,hgr3,hgr4,hgr5⟩:=xq5;have hbx:=xq3.kept hg9 (fun e=>by have:=Option.some.inj e;omega);have hbr:=xq4.kept hg9 (fun e=>by have:=Option.some.inj e;omega);have HG9:=Lh_ (grown_trans xq2 hg9);clear xq1 xq2 xq3 xq4 xq6 hgr1 hgr2 HST1 hnew9 hsp9 hg9 hbd9;have HIN9:=Lh_ hin9;have HC9:=Lh_ hc9;have HBX:=Lh_ hbx;have HBR:=Lh_ hbr;obtain ⟨x0,x1,x2,x3,x4,x5,x6⟩:=s7_ hbx.1;have xf:=hbx.2.1;obtain ⟨y0,y1,y2,y3,y4,y5,y6⟩:=s7_ hbr.1;have yf:=hbr.2.1;clear hin9 hc9 hbx hbr;have hc9s:=HC9.out.set_ (g:=w3.heap.size) (j:=6) (by omega) (.slice A9 xs9.length c9);have hg9s:=grown_set (g:=w3.heap.size) (j:=6) HG9.out (by omega) (.slice A9 xs9.length c9);obtain ⟨q1,q2⟩:=fin_cur (.int .i64 5) (.string i) (.string ByteArray.empty) (.int .i64 0) (.int .i64 0) (.int .i64 0) (.slice A9 xs9.length c9) hc9s hg9s (show w.heap.size≠b by omega) (Nat.le_refl _);have hin:=HIN9.out.set_ (g:=w3.heap.size) (j:=6) (by omega) (.slice A9 xs9.length c9);have hin:=hin.set_ (g:=w.heap.size) (j:=0) (by omega) (.int .i64 5);have hin:=hin.set_ (g:=w.heap.size) (j:=1) (by omega) (.string i);have hin:=hin.set_ (g:=w.heap.size) (j:=2) (by omega) (.string ByteArray.empty);have hin:=hin.set_ (g:=w.heap.size) (j:=3) (by omega) (.int .i64 0);have hin:=hin.set_ (g:=w.heap.size) (j:=4) (by omega) (.int .i64 0);have hin:=hin.set_ (g:=w.heap.size) (j:=5) (by omega) (.int .i64 0);have hin:=hin.set_ (g:=w.heap.size) (j:=6) (by omega) (.slice A9 xs9.length c9);have HIN:=Lh_ hin;have HQ1:=Lh_ q1;have HQ2:=Lh_ q2;clear hin q1 q2 hc9s hg9s;go_wp2;refine bodyPost_ret (v:=.agg #[.int .i64 5,.string i,.string ByteArray.empty,.int .i64 0,.int .i64 0,.int .i64 0,.slice A9 xs9.length c9]) (by simp [results,Tryz.results105,go_sem,y0,y1,y2,y3,y4,y5,y6]) rfl ⟨contCells 5 i ByteArray.empty 0 0 0 A9 xs9.length c9,.mk 5 i ByteArray.empty 0 0 0 xs9,k9,bad9,rfl,?_,HQ1.out,HQ2.out,⟨HNODE.out.1,HNODE.out.2.1,by rw [nodesC];have:=HNODE.out.2.2;omega⟩,?_⟩
  ·
   unfold NewC
   rw [CRdS];obtain ⟨r1,r2,r3⟩:=HIN.out;refine ⟨A9,c9,rfl,⟨by unfold okInt;omega,by unfold maxLen;have:=HIL.out;omega,by unfold maxLen;decide,by unfold okInt;omega,by unfold okInt;omega,by unfold okInt;omega⟩,r1,r2,fun hn=>?_⟩;obtain ⟨bb,o,hA,hbb,hcs⟩:=r3 hn;exact ⟨bb,o,hA,⟨by omega,hbb.2⟩,CsAtS_mono (fun y hy=>⟨by have:=hy.1;omega,hy.2⟩) (fun _ _ _ _ hu=>hu) bb hbb xs9 o hcs⟩
  · rw [HSPC.out];exact HSP9.out
 have etable:(kp.toList == [116,97,98,108,101])=false:=by rw [show ([116,97,98,108,101]:List UInt8)=(⟨#[116,97,98,108,101]⟩:ByteArray).toList from by decide +kernel,ba_beq];exact decide_eq_false hq
 have HQtable:=Lh_ hq;clear hq;have hl:=HF1.out;rw [contP_other (fun h=>HQ0.out (HKP.out.symm.trans h)) (fun h=>HQfs.out (HKP.out.symm.trans h)) (fun h=>HQraid.out (HKP.out.symm.trans h)) (fun h=>HQcrypt.out (HKP.out.symm.trans h)) (fun h=>HQpv.out (HKP.out.symm.trans h)) (fun h=>HQtable.out (HKP.out.symm.trans h))] at hl;have hl2:spec=none:=by rw [hl];cases bad <;> simp
 have HL:=Lh_ hl2;have HST0:=HST;clear hl hl2;obtain ⟨p0,p1,p2,pf,plt⟩:=HST0.out.1;go_wp2_with fail;obtain ⟨cb1,cb2⟩:=cur_bad true HST0.out.1;have HST1:=Lh_ (HST0.out.go cb1 cb2 ⟨Nat.le_refl _,HST0.out.2.2.2.2.1.2.1⟩ (fun h=>by cases h));clear p0 p1 p2 pf plt cb1 cb2 HST0;have hfi:∀ bad9 k9,(bad9=false→bad=false∧k+1≤k9)→bad9=false→s.size<N+(k9+1)∧s.size+1<f'+(k9+1):=fun bad9 k9 h1 h2=>by
  obtain ⟨h3,h4⟩:=h1 h2;have:=HF2.out h3;have:=HN.out;exact ⟨by omega,by omega⟩
 have HFI:=Lh_ hfi;clear hfi;refine (inner_any s hs N HH.out _ f' _ b _ HST1.out.2.2.2.2.1.2.1 (HFI.out _ _ HST1.out.2.2.2.2.2) HST1.out.1 (HOK.out.grown HST1.out.2.1 HGB.out) HGB.out).mono ?_;rintro e' w9 ⟨A9,c9,xs9,k9,bad9,rfl,hnew9,hc9,hg9,hbd9,hsp9⟩;have HNODE:=Lh_ (show k≤k9∧k9≤s.size∧nodesL xs9+k≤k9 by have:=HST1.out.2.2.2.2.1.1;omega);have hin9:InS w9 (w3.heap.size+1) A9 c9 xs9:=by
  have hle:=HST1.out.2.2.1.2.2;obtain ⟨q1,q2,q3⟩:=hnew9;refine ⟨q1,q2,fun hn=>?_⟩;obtain ⟨bb,o,hA,hbb,hcs⟩:=q3 hn;exact ⟨bb,o,hA,⟨by omega,hbb.2⟩,CsAtS_mono (fun y hy=>⟨by have:=hy.1;omega,hy.2⟩) (fun _ _ _ _ hu=>hu) bb hbb xs9 o hcs⟩
 have HSP9:=Lh_ (bad_of_none (x:=(xs9,k9)) (by simpa using hsp9));obtain ⟨xq1,xq2,xq3,xq4,xq5,xq6⟩:=HST1.out;obtain ⟨hgr1,hgr2,hgr3,hgr4,hgr5⟩:=xq5;have hbx:=xq3.kept hg9 (fun e=>by have:=Option.some.inj e;omega);have hbr:=xq4.kept hg9 (fun e=>by have:=Option.some.inj e;omega);have HG9:=Lh_ (grown_trans xq2 hg9);clear xq1 xq2 xq3 xq4 xq6 hgr1 hgr2 HST1 hnew9 hsp9 hg9 hbd9;have HIN9:=Lh_ hin9;have HC9:=Lh_ hc9;have HBX:=Lh_ hbx;have HBR:=Lh_ hbr;obtain ⟨x0,x1,x2,x3,x4,x5,x6⟩:=s7_ hbx.1;have xf:=hbx.2.1;obtain ⟨y0,y1,y2,y3,y4,y5,y6⟩:=s7_ hbr.1;have yf:=hbr.2.1;clear hin9 hc9 hbx hbr;have hc9s:=HC9.out.set_ (g:=w3.heap.size) (j:=6) (by omega) (.slice A9 xs9.length c9);have hg9s:=grown_set (g:=w3.heap.size) (j:=6) HG9.out (by omega) (.slice A9 xs9.length c9);obtain ⟨q1,q2⟩:=fin_cur (.int .i64 0) (.string i) (.string ByteArray.empty) (.int .i64 0) (.int .i64 0) (.int .i64 0) (.slice A9 xs9.length c9) hc9s hg9s (show w.heap.size≠b by omega) (Nat.le_refl _);have hin:=HIN9.out.set_ (g:=w3.heap.size) (j:=6) (by omega) (.slice A9 xs9.length c9);have hin:=hin.set_ (g:=w.heap.size) (j:=0) (by omega) (.int .i64 0);have hin:=hin.set_ (g:=w.heap.size) (j:=1) (by omega) (.string i);have hin:=hin.set_ (g:=w.heap.size) (j:=2) (by omega) (.string ByteArray.empty);have hin:=hin.set_ (g:=w.heap.size) (j:=3) (by omega) (.int .i64 0);have hin:=hin.set_ (g:=w.heap.size) (j:=4) (by omega) (.int .i64 0);have hin:=hin.set_ (g:=w.heap.size) (j:=5) (by omega) (.int .i64 0);have hin:=hin.set_ (g:=w.heap.size) (j:=6) (by omega) (.slice A9 xs9.length c9);have HIN:=Lh_ hin;have HQ1:=Lh_ q1;have HQ2:=Lh_ q2;clear hin q1 q2 hc9s hg9s;go_wp2;refine bodyPost_ret (v:=.agg #[.int .i64 0,.string i,.string ByteArray.empty,.int .i64 0,.int .i64 0,.int .i64 0,.slice A9 xs9.length c9]) (by simp [results,Tryz.results105,go_sem,y0,y1,y2,y3,y4,y5,y6]) rfl ⟨contCells 0 i ByteArray.empty 0 0 0 A9 xs9.length c9,.mk 0 i ByteArray.empty 0 0 0 xs9,k9,bad9,rfl,?_,HQ1.out,HQ2.out,⟨HNODE.out.1,HNODE.out.2.1,by rw [nodesC];have:=HNODE.out.2.2;omega⟩,?_⟩
 ·
  unfold NewC
  rw [CRdS];obtain ⟨r1,r2,r3⟩:=HIN.out;refine ⟨A9,c9,rfl,⟨by unfold okInt;omega,by unfold maxLen;have:=HIL.out;omega,by unfold maxLen;decide,by unfold okInt;omega,by unfold okInt;omega,by unfold okInt;omega⟩,r1,r2,fun hn=>?_⟩;obtain ⟨bb,o,hA,hbb,hcs⟩:=r3 hn;exact ⟨bb,o,hA,⟨by omega,hbb.2⟩,CsAtS_mono (fun y hy=>⟨by have:=hy.1;omega,hy.2⟩) (fun _ _ _ _ hu=>hu) bb hbb xs9 o hcs⟩
 · rw [HSPC.out,HSP9.out,HL.out];simp
theorem content_any (s:ByteArray) (hs:s.size≤1000) (hix:IxOk s):∀ N,ContCalls s N
 | 0=>fun k f bad b w h hk=>by omega
 | N+1=>content_step s hs hix N (content_any s hs hix N)
end Go.Proofs.YtjgllhlilbchpaaGreatDoor
namespace Go.Cold
open Go Go.RowKit
noncomputable def parseC (s:ByteArray):Option Cont:=if 256<s.size then none else match contP s (s.size+1) 0 with
 | some (c,k)=>if k=s.size∧badC c=false then some c else none
 | none=>none
end Go.Cold
namespace Go.Proofs.YtjgllhlilbchpaaGreatDoor
open Go.RowKit Go.Cold

def zeroA:Value:=.agg #[.int .i64 0,.string ByteArray.empty,.string ByteArray.empty,.int .i64 0,.int .i64 0,.int .i64 0,.slice none 0 0]
def ParsePost (s:ByteArray) (w:World) (e:Ending) (w':World):Prop:=Below w.heap.size w w'∧
 ((∃ c cs,parseC s=some c∧e=.returned (.tuple #[.agg cs.toArray,.int .i64 0])∧NewC w w' c cs∧nodesC c≤257)∨(parseC s=none∧e=.returned (.tuple #[zeroA,.int .i64 (if 256<s.size then 71 else 70)])))
set_option maxHeartbeats 4000000 in
set_option maxRecDepth 100000 in
theorem Parse_any (s:ByteArray) (hix:s.size≤256→IxOk s) (w:World) (hsz:s.size≤maxLen) (hok:Ok7 w):Calls Tryz.prog 54 #[.string s] w (ParsePost s w):=by
 have hzv:=(zero_of_info (P:=Tryz.prog) (t:=72) info_cont2).1;unfold maxLen at hsz;by_cases hs:s.size≤256
 ·
  have hix:=hix hs
  have HIX:=Lh_ hix;have HOK:=Lh_ hok;clear hix hok hsz;have i1:(s.size:Int)≤256:=by omega
  go_enter Tryz.func54,Tryz.ntmps54;go_upto_region 4 with fail
  obtain ⟨w1,hw1⟩:∃ w1,w.alloc (.cells #[.int .i64 0,.string ByteArray.empty,.string ByteArray.empty,.int .i64 0,.int .i64 0,.int .i64 0,.slice none 0 0] 72)=w1:=⟨_,rfl⟩;obtain ⟨w2,hw2⟩:∃ w2,w1.alloc (.cells #[.string s,.int .i64 0,.bool false] 136)=w2:=⟨_,rfl⟩;obtain ⟨hb1,hg1,-⟩:=box7 hw1;have hf1:=box7f hw1;have hf2:=box7f hw2;have hb2:Below w1.heap.size w1 w2:=by rw [← hw2];exact (Below.refl _ _).alloc (Nat.le_refl _) _
  have hg2:w2.heap.size=w1.heap.size+1:=by rw [← hw2];simp
  have hr1:BoxL w1 w.heap.size zeroL:=by
   refine ⟨fun j u hu=>?_,hf1,by omega⟩;rw [← hw1,World.cell?_alloc_at _ _ _ _ rfl];simpa [zeroL] using hu
  have hcur:CurAt w2 w1.heap.size s 0 false:=by
   refine ⟨?_,?_,?_,hf2,by omega⟩ <;> (rw [← hw2,World.cell?_alloc_at _ _ _ _ rfl];rfl)
  have hg12:w1.grownBy w2 none:=⟨hb2.os,hb2.tape,hb2.output,hb2.size,fun k hk _=>hb2.block k hk⟩;have HR2:=Lh_ (hr1.kept hg12 (fun e=>by cases e));have HCUR:=Lh_ hcur;have hb02:Below w.heap.size w w2:=hb1.trans (hb2.mono (by omega));have HB02:=Lh_ hb02;have HOK2:=Lh_ (HOK.out.below hb02);have HG1:=Lh_ hg1;have HG2:=Lh_ hg2;have HGB:=Lh_ (HOK.out.gb (show w.heap.size≤w1.heap.size by omega));rw [hw1,hw2];clear hw1 hw2 hb1 hb2 hf1 hf2 hr1 hcur hg12 hb02 hg1 hg2;go_wp2_with fail;rw [← HG1.out];refine (content_any s (by omega) HIX.out (s.size+1) 0 (s.size+1) false w1.heap.size w2 (by omega) (by omega) (fun _=>by omega) HCUR.out HOK2.out HGB.out).mono ?_;rintro e w3 ⟨cs,c,k,bad,rfl,hnew,hc3,hg3,hbd,hsp⟩;obtain ⟨kk,i,l,sl,t,le,xs⟩:=c;obtain ⟨A,cp,rfl⟩:=CRdS_cells hnew;simp only [contCells];have hpc:parseC s=if bad=false∧k=s.size∧badC (.mk kk i l sl t le xs)=false then some (.mk kk i l sl t le xs) else none:=by
   rw [if_neg (by decide)] at hsp;unfold parseC;rw [if_neg (by omega),hsp];cases bad
   · simp
   · simp
  have HPC:=Lh_ hpc;have HNEW:=Lh_ hnew;obtain ⟨w4,hw4⟩:∃ w4,w3.alloc (.cells #[.int .i64 kk,.string i,.string l,.int .i64 sl,.int .i64 t,.int .i64 le,.slice A xs.length cp] 72)=w4:=⟨_,rfl⟩;obtain ⟨hb4,hg4,hbox4⟩:=box7 hw4;have hsz3:w2.heap.size≤w3.heap.size:=hg3.size;have hb03:Below w.heap.size w w3:=below_of_grown HB02.out hg3 (by have:=HG1.out;have:=HG2.out;omega) (by have:=HG1.out;omega);have hb04:Below w.heap.size w w4:=hb03.trans (hb4.mono (by have:=HG1.out;have:=HG2.out;omega));have hr3:=HR2.out.kept hg3 (fun e=>by have:=Option.some.inj e;have:=HG1.out;omega);have hg34:w3.grownBy w4 none:=⟨hb4.os,hb4.tape,hb4.output,hb4.size,fun k hk _=>hb4.block k hk⟩;have hr4:=hr3.kept hg34 (fun e=>by cases e);have hc4:=(hc3.below hb4).1;have hx4:CRd w4 w4.heap.size (.mk kk i l sl t le xs) (contCells kk i l sl t le A xs.length cp):=CRd_more (by omega) _ _ (CRd_keep hb4 _ _ hnew.crd);have hnd:nodesC (.mk kk i l sl t le xs)≤257:=by have:=hbd.2.1;have:=hbd.2.2;omega
  have HND:=Lh_ hnd;have hnew4:CRdS w4 (fun x=>w2.heap.size≤x∧x<w3.heap.size) (.mk kk i l sl t le xs) (contCells kk i l sl t le A xs.length cp) :=
   CRdS_mono (fun _ h=>h) (fun y o u hy hu=>(hb4.cell (p:=⟨y,o,none⟩) (by exact hy.2)).trans hu) _ _ hnew
  have HB04:=Lh_ hb04;have HR4:=Lh_ hr4;have HC4:=Lh_ hc4;have HX4:=Lh_ hx4;have HNEW4:=Lh_ hnew4;have HBOX4:=Lh_ hbox4;have HKS:=Lh_ hbd.2.1;have HSZ3:=Lh_ hsz3;have HG4:=Lh_ hg4;clear hpc hnew hb4 hg4 hb03 hb04 hr3 hg34 hr4 hc4 hx4 hnew4 hnd hbox4 hsz3 hbd hsp hc3 hg3;go_upto_region 5 with fail
  try rw [hw4]
  clear hw4;obtain ⟨d0,d1,d2,d3,d4,d5,d6⟩:=HBOX4.out.zero;obtain ⟨p0,p1,p2,pf,plt⟩:=HC4.out;obtain ⟨y0,y1,y2,y3,y4,y5,y6⟩:=s7_ HR4.out.1;have yf:=HR4.out.2.1;have hfail:parseC s=none→∀ (w5:World),Below w4.heap.size w4 w5→ParsePost s w (.returned (.tuple #[zeroA,.int .i64 70])) (((((((w5.setCell ⟨w.heap.size,0,none⟩ (.int .i64 0)).setCell ⟨w.heap.size,1,none⟩ (.string ByteArray.empty)).setCell ⟨w.heap.size,2,none⟩ (.string ByteArray.empty)).setCell ⟨w.heap.size,3,none⟩ (.int .i64 0)).setCell ⟨w.heap.size,4,none⟩ (.int .i64 0)).setCell ⟨w.heap.size,5,none⟩ (.int .i64 0)).setCell ⟨w.heap.size,6,none⟩ (.slice none 0 0)):=by
   intro h w5 hb5;have hb05:Below w.heap.size w w5:=HB04.out.trans (hb5.mono HB04.out.size);exact ⟨((((((hb05.setCell (by simp) _).setCell (by simp) _).setCell (by simp) _).setCell (by simp) _).setCell (by simp) _).setCell (by simp) _).setCell (by simp) _,.inr ⟨h,by rw [if_neg (by omega)]⟩⟩
  have HFAIL:=Lh_ hfail;clear hfail;cases bad with
  | true =>
   have hn:parseC s=none:=by rw [HPC.out];simp
   have HN:=Lh_ hn;clear hn;go_wp2;exact bodyPost_ret (v:=.tuple #[.agg #[.int .i64 0,.string ByteArray.empty,.string ByteArray.empty,.int .i64 0,.int .i64 0,.int .i64 0,.slice none 0 0],.int .i64 70]) (by simp [results,Tryz.results54,go_sem,y0,y1,y2,y3,y4,y5,y6]) rfl (HFAIL.out HN.out _ (Below.refl _ _))
  | false =>
   by_cases hk:k=s.size
   ·
    have hk1:((k:Int) != (s.size:Int))=false:=by simp [hk]
    have hk2:((k:Int) == (s.size:Int))=true:=by simp [hk]
    have HK:=Lh_ hk;clear hk;have hcall:=c7Check_any (.mk kk i l sl t le xs) _ w4 HX4.out (by have:=HND.out;omega);have HCALL:=Lh_ hcall;clear hcall;go_wp2_with fail;refine HCALL.out.mono ?_;rintro e w5 ⟨rfl,hb5⟩;have hsz4:=HR4.out.2.2;have hszb:=HB04.out.size;have hr5:=HR4.out.kept (row:=none) ⟨hb5.os,hb5.tape,hb5.output,hb5.size,fun k hk _=>hb5.block k hk⟩ (fun e=>by cases e);obtain ⟨f0,f1,f2,f3,f4,f5,f6⟩:=(HBOX4.out.keep hb5 (by have:=HG4.out;omega)).zero;clear d0 d1 d2 d3 d4 d5 d6 y0 y1 y2 y3 y4 y5 y6 yf p0 p1 p2 pf plt hk1 hk2;obtain ⟨y0,y1,y2,y3,y4,y5,y6⟩:=s7_ hr5.1;have yf:=hr5.2.1;have HB5:=Lh_ hb5;clear hb5 hr5 hsz4 hszb;cases hbad:badC (.mk kk i l sl t le xs) with
    | true =>
     have hn:parseC s=none:=by rw [HPC.out,hbad];simp
     have HN:=Lh_ hn;clear hn;rw [checkE_bad hbad];clear hbad;go_wp2;exact bodyPost_ret (v:=.tuple #[.agg #[.int .i64 0,.string ByteArray.empty,.string ByteArray.empty,.int .i64 0,.int .i64 0,.int .i64 0,.slice none 0 0],.int .i64 70]) (by simp [results,Tryz.results54,go_sem,y0,y1,y2,y3,y4,y5,y6]) rfl (HFAIL.out HN.out _ HB5.out)
    | false =>
     have hn:parseC s=some (.mk kk i l sl t le xs):=by rw [HPC.out,hbad,HK.out];simp
     have HN:=Lh_ hn;clear hn;rw [checkE_ok hbad];clear hbad;go_wp2;refine bodyPost_ret (v:=.tuple #[.agg #[.int .i64 kk,.string i,.string l,.int .i64 sl,.int .i64 t,.int .i64 le,.slice A xs.length cp],.int .i64 0]) (by simp [results,Tryz.results54,go_sem,y0,y1,y2,y3,y4,y5,y6]) rfl ⟨?_,.inl ⟨_,contCells kk i l sl t le A xs.length cp,HN.out,rfl,?_,HND.out⟩⟩
     ·
      have hb05:Below w.heap.size w w5:=HB04.out.trans (HB5.out.mono HB04.out.size)
      exact ((((((hb05.setCell (by simp) _).setCell (by simp) _).setCell (by simp) _).setCell (by simp) _).setCell (by simp) _).setCell (by simp) _).setCell (by simp) _
     ·
      unfold NewC
      rw [fin_size];refine CRdS_mono (fun y hy=>⟨by have:=hy.1;have:=HG1.out;have:=HG2.out;omega,by have:=hy.2;have:=HG4.out;have:=HB5.out.size;omega⟩) (fun y o u hy hu=>?_) _ _ HNEW4.out;exact fin_cells _ _ _ _ _ _ _ y o u (by have:=hy.1;have:=HG1.out;have:=HG2.out;omega) ((HB5.out.cell (p:=⟨y,o,none⟩) (by show y<w4.heap.size;have:=hy.2;have:=HG4.out;omega)).trans hu)
   ·
    have hk1:((k:Int) != (s.size:Int))=true:=by simp;omega
    have hk2:((k:Int) == (s.size:Int))=false:=by simp;omega
    have hn:parseC s=none:=by rw [HPC.out];simp [hk]
    have HN:=Lh_ hn;clear hn hk;go_wp2;exact bodyPost_ret (v:=.tuple #[.agg #[.int .i64 0,.string ByteArray.empty,.string ByteArray.empty,.int .i64 0,.int .i64 0,.int .i64 0,.slice none 0 0],.int .i64 70]) (by simp [results,Tryz.results54,go_sem,y0,y1,y2,y3,y4,y5,y6]) rfl (HFAIL.out HN.out _ (Below.refl _ _))
 ·
  have i1:¬ (s.size:Int)≤256:=by omega
  have hn:parseC s=none:=by unfold parseC;rw [if_pos (by omega)]
  have HN:=Lh_ hn;clear hn;go_enter Tryz.func54,Tryz.ntmps54;go_wp2;refine bodyPost_ret (v:=.tuple #[.agg #[.int .i64 0,.string ByteArray.empty,.string ByteArray.empty,.int .i64 0,.int .i64 0,.int .i64 0,.slice none 0 0],.int .i64 71]) (by simp [results,Tryz.results54,go_sem]) rfl ⟨?_,.inr ⟨HN.out,by rw [if_pos (by omega)];rfl⟩⟩;(repeat first | refine Below.setCell ?_ (by first | (simp;done) | (simp;omega)) _ | refine Below.alloc ?_ (by first | (simp;done) | (simp;omega)) _);exact Below.refl _ _
end Go.Proofs.YtjgllhlilbchpaaGreatDoor
namespace Go.Cold
open Go Go.RowKit
end Go.Cold
namespace Go.Proofs.YtjgllhlilbchpaaGreatDoor
open Go.RowKit Go.Cold

end Go.Proofs.YtjgllhlilbchpaaGreatDoor
namespace Go.Cold
open Go Go.RowKit
section
variable {w0 w w':World} {B b gr gc k k':Nat} {xs:List Int} {cs:List Value}
end
end Go.Cold
namespace Go.Proofs.YtjgllhlilbchpaaGreatDoor
open Go.RowKit Go.Cold

end Go.Proofs.YtjgllhlilbchpaaGreatDoor
