/-
  The walks of coldplugworld: Tree and Some.
-/
import Derived.Test.YtjgllhlilbchpaaGreatDoorQTK
import Derived.Test.YtjgllhlilbchpaaGreatDoorQG
set_option linter.unusedSimpArgs false
set_option linter.unusedVariables false
namespace Go.Cold
open Go Go.RowKit
def TrSt (w0:World) (B b:Nat) (xs:List Int) (k g4 g5:Nat) (A:Option Addr) (c:Nat) (L:List Dev) (w:World):Prop :=
 TapeAt w B b xs k∧w0.grownBy w (some b)∧BoxL w g4 [.slice none 0 0]∧BoxL w g5 [.slice A L.length c]∧SlS w (fun x=>g5<x∧x<w.heap.size) A c L
def TrK (w0:World) (B b g4 g5:Nat):Prop:=b<w0.heap.size∧B≤b∧w0.heap.size≤g4∧g4<g5
section
variable {w0 w w':World} {B b k k' g4 g5 c:Nat} {xs:List Int} {A:Option Addr} {L:List Dev}
theorem TrSt.tape (h:TrSt w0 B b xs k g4 g5 A c L w) (K:TrK w0 B b g4 g5) (ht:TapeAt w' B b xs k') (hg:w.grownBy w' (some b)):TrSt w0 B b xs k' g4 g5 A c L w':=by
 obtain ⟨h1,h2,h3,h4,h5⟩:=h;obtain ⟨a1,a2,a3,a4⟩:=K;exact ⟨ht,grown_trans h2 hg,h3.kept hg (fun e=>by have:=Option.some.inj e;omega),h4.kept hg (fun e=>by have:=Option.some.inj e;omega),
  h5.mono (fun x hx=>⟨hx.1,by have:=hg.size;omega⟩) (fun x o u hx hu=>hg.cell hu (fun e=>by have h:x=b:=Option.some.inj e;omega))⟩
theorem TrSt.below (h:TrSt w0 B b xs k g4 g5 A c L w) (hb:Below w.heap.size w w'):TrSt w0 B b xs k g4 g5 A c L w':=by
 obtain ⟨h1,h2,h3,h4,h5⟩:=h;exact ⟨h1.kept (grown_none hb) (fun e=>by cases e) (fun g e=>by cases e),grown_below h2 hb,h3.kept (grown_none hb) (fun e=>by cases e),h4.kept (grown_none hb) (fun e=>by cases e),
  h5.mono (fun x hx=>⟨hx.1,by have:=hb.size;omega⟩) (fun x o u hx hu=>(hb.cell (p:=⟨x,o,none⟩) (by exact hx.2)).trans hu)⟩
theorem TrSt.drew (h:TrSt w0 B b xs k g4 g5 A c L w):TrSt w0 B b xs k g4 g5 A c L w.drew:=h.below (below_drewN_self w _ 1)
theorem TrSt.put {A':Option Addr} {c':Nat} {L':List Dev} (h:TrSt w0 B b xs k g4 g5 A c L w) (K:TrK w0 B b g4 g5) (hs:SlS w (fun x=>g5<x∧x<w.heap.size) A' c' L'):TrSt w0 B b xs k g4 g5 A' c' L' (w.setCell ⟨g5,0,none⟩ (.slice A' L'.length c')):=by
 obtain ⟨h1,h2,h3,h4,h5⟩:=h;obtain ⟨a1,a2,a3,a4⟩:=K;exact ⟨h1.set_ (by omega) (by omega) _,grown_set h2 (by omega) _,h3.far (by omega) _,h4.set_ (j:=0) (by simp) _,(hs.set_ (fun x hx=>by omega) _).mono (fun x hx=>⟨hx.1,by simpa using hx.2⟩) (fun _ _ _ _ hu=>hu)⟩
theorem TrSt.treeIn (h:TrSt w0 B b xs k g4 g5 A c L w) (K:TrK w0 B b g4 g5):TreeIn w b (fun x=>g5<x∧x<w.heap.size) A c L:=by
 obtain ⟨a1,a2,a3,a4⟩:=K;exact ⟨h.2.2.2.2,fun x hx=>by omega,fun x hx=>hx.2⟩
end
theorem VT_tree {L:List Dev} {d:Dev} (h:VT L) (he:insE L d=0):VT (insR L d)∧(insR L d).length=L.length+1:=by
 unfold insR;rw [if_pos he];exact ⟨(ins_VT h he).1,ins_length L d⟩
end Go.Cold
namespace Go.Proofs.YtjgllhlilbchpaaGreatDoor
open Go.RowKit Go.Cold
def NotG (b:Nat):Prop:=¬ b=0
theorem Ok.tape {w w':World} {b:Nat} (h:Ok w) (hg:w.grownBy w' (some b)) (hb:NotG b):Ok w':=by
 obtain ⟨m,hm⟩:=h;exact ⟨m,hg.cell hm (fun e=>hb (Option.some.inj e).symm)⟩
def TreePost (xs:List Int) (k B b:Nat) (n:Int) (w:World) (e:Ending) (w':World):Prop:=∃ (A:Option Addr) (c:Nat) (L:List Dev) (k':Nat),e=.returned (.agg #[.slice A L.length c])∧VT L∧(L.length:Int)≤n∧SlS w' (fun x=>w.heap.size≤x∧x<w'.heap.size) A c L∧k'≤k+1000∧TapeAt w' B b xs k'∧w.grownBy w' (some b)
def TrCut (w0:World) (B b:Nat) (xs:List Int) (kx g4 g5:Nat) (A:Option Addr) (c:Nat) (L:List Dev) (g7:Nat) (d:Dev) (w:World):Prop :=
 ∃ (k':Nat) (A':Option Addr) (c':Nat),k'≤kx∧TrSt w0 B b xs k' g4 g5 A c L w∧SlS w (fun x=>g5<x∧x<w.heap.size) A' c' (insR L d)∧w.cell? ⟨g7,0,none⟩=some (.slice A' (insR L d).length c')
theorem info_tree2:(Tryz.prog.info? 28).map (fun i=>(i.zero,i.size))=some (some (.agg #[.slice none 0 0]),1):=by kernel_rfl
set_option maxRecDepth 100000 in
set_option maxHeartbeats 8000000 in
theorem Tree_any (xs:List Int) (k B b:Nat) (n:Int) (w:World) (hk:k≤2 ^ 37) (ht:TapeAt w B b xs k) (hn:0≤n∧n≤20) (hok:Ok w) (hng:NotG b):Calls Tryz.prog 10 #[.pointer (some ⟨b,0,none⟩),.int .i64 n] w (TreePost xs k B b n w):=by
 have hn1:0≤n:=hn.1;have hn2:n≤20:=hn.2;have HT:=Lh_ ht;have HK:=Lh_ hk;have HOK:=Lh_ hok;have HNG:=Lh_ hng;have HN:=Lh_ hn;clear ht hk hok hng hn;have HBW:=Lh_ (show b<w.heap.size∧B≤b by obtain ⟨_,_,_,_,_,_,h1,h2⟩:=HT.out;exact ⟨h2,h1⟩);have hzt:=(zero_of_info (P:=Tryz.prog) (t:=28) info_tree2).1;go_enter Tryz.func10,Tryz.ntmps10;go_upto_region 2 with fail
 obtain ⟨w1,hw1,hbw1,HGw1,HXrw1⟩:=bx_ w [.slice none 0 0] 28;try simp only [hw1]
 have HBw1:=Lh_ hbw1;clear hw1 hbw1;try rw [← HGw1.out]
 obtain ⟨w2,hw2,hbw2,HGw2,HXtw2⟩:=bx_ w1 [.slice none 0 0] 28;try simp only [hw2]
 have HBw2:=tb_ HBw1 hbw2;have rw2:=kb_ HXrw1 hbw2;clear hw2 hbw2;try rw [← HGw2.out]
 have HT2:=Lh_ (HT.out.kept (grown_none HBw2.out) (fun e=>by cases e) (fun g e=>by cases e));have HKK:=Lh_ (show TrK w B b w.heap.size w1.heap.size from ⟨HBW.out.1,HBW.out.2,Nat.le_refl _,by have:=HGw1.out;omega⟩);have HST:=Lh_ (show TrSt w B b xs (k) w.heap.size w1.heap.size none 0 ([]:List Dev) w2 from ⟨HT2.out,grown_any HBw2.out,rw2.out,HXtw2.out,SlS.nil_⟩);go_wp2_with fail;refine (Next_lit (n+1) xs k B b _ (by have:=HK.out;omega) HT2.out (by omega) (by omega)).mono ?_;rintro e w3 ⟨m,hm0,hm1,rfl,ht_,hg_⟩;have HST3:=Lh_ (HST.out.tape HKK.out ht_ hg_);clear ht_ hg_;go_wp2_with fail;go_loopw [6] (fun i wr=>∃ (j:Int) (L:List Dev) (A:Option Addr) (c k':Nat),i=.int .i64 j∧(0≤j∧j≤n∧(L.length:Int)+j≤n)∧Hid (VT L)∧Hid ((k':Int)+31 * j≤k+1+31 * n)∧Hid (TrSt w B b xs (k') w.heap.size w1.heap.size A c L wr)) (fun i _=>(intOf i).toNat)
 case atStart=>exact ⟨m,[],none,0,k+1,rfl,⟨hm0,by omega,by simp;omega⟩,VT_nil,by show ((k+1:Nat):Int)+31 * m≤_;omega,HST3⟩
 case round =>
  obtain ⟨j,L,A,c,k',rfl,hj,HVT,HKB,HST⟩:=hrel;obtain ⟨hj0,hj1,hj2⟩:=hj;clear HST3 hm0 hm1;have hk':k'≤k+1+31 * 20:=by have:=HKB.out;omega
  have HKX:=Lh_ hk';clear hk';have hll:L.length≤20:=by omega
  have HLL:=Lh_ hll;clear hll;by_cases hlt:0<j
  ·
   go_upto_region 5 with fail
   go_cut [7,8] (fun s7 s8 wx=>∃ (g7:Nat) (d:Dev),s7=.pointer (some ⟨g7,0,none⟩)∧s8=.int .i64 (insE L d)∧Hid (TrCut w B b xs (k'+30) w.heap.size w1.heap.size A c L g7 d wx))
   case first =>
    refine wp_region_held_drew (S:=fun w'=>BoxL w' w1.heap.size [.slice A L.length c]) (by kernel_rfl) HST.out.2.2.2.1.drew (fun hS0=>?_);obtain ⟨wd,hwd⟩:∃ z,wr.drew=z:=⟨_,rfl⟩;have HSTd:=Lh_ HST.out.drew;rw [hwd] at hS0 HSTd ⊢;clear hwd hS0;have HGDd:=Lh_ (show wd.grownBy wd (some b) from grown_any (Below.refl _ _));refine tk1 0 18 (.agg #[.slice A L.length c]) rfl (fun w' hS=>by (have u:=hS.1 0 _ rfl;go_simp)) HSTd.out.2.2.2.1 ?_;try simp only [Act.put,sA_,sB_,sC_]
    refine tk1 2 20 (.agg #[.slice A L.length c]) rfl (fun w' hS=>by (have u:=hS.1 0 _ rfl;go_simp)) HSTd.out.2.2.2.1 ?_;try simp only [Act.put,sA_,sB_,sC_]
    refine tk1 1 19 (.pointer (some ⟨b,0,none⟩)) rfl (fun w' hS=>by go_simp) HSTd.out.2.2.2.1 ?_;try simp only [Act.put,sA_,sB_,sC_]
    refine wpAnyH_ready (rs:=[3,8]) (by kernel_rfl) (by simp) ?_;refine AllReadyH.cons (o:=⟨some 21,.call ⟨_,_,_⟩,_,_,_,_⟩) rfl (fun K hK=>?_) (AllReadyH.cons (o:=⟨some 7,.alloc _,_,_,_,_⟩) rfl (fun K hK=>?_) (AllReadyH.nil))
    ·
     go_simp;go_at_call 39;refine (Device_any xs k' B b A c L _ _ (by have:=HK.out;have:=HKX.out;omega) HSTd.out.1 (HSTd.out.treeIn HKK.out) (fun d hd=>(HVT.out.small d hd).2) (by have:=HLL.out;omega)).mono ?_;rintro e' q3 ⟨d,A2,c2,k2,rfl,hfew_,hsl_,hk2_,ht_,hg_⟩;have HSTq3:=Lh_ (HSTd.out.tape HKK.out ht_ hg_);have HFEW:=Lh_ hfew_;have HK2:=Lh_ hk2_;have HGDq3:=Lh_ (grown_trans HGDd.out hg_);have HSDq3:=Lh_ (show SlS q3 (fun x=>w1.heap.size<x∧x<q3.heap.size) A2 c2 d.attrs from hsl_.mono (fun x hx=>⟨by have:=HSTd.out.2.2.2.1.2.2;omega,hx.2⟩) (fun _ _ _ _ hu=>hu));clear hfew_ hsl_ hk2_ ht_ hg_;refine hK.out _ _ HSTq3.out.2.2.2.1 (fun _=>?_);clear hK K;try simp only [Act.put,sA_,sB_,sC_]
     refine wpAnyH_ready (rs:=[4,8]) (by kernel_rfl) (by simp) ?_;refine AllReadyH.cons (o:=⟨some 22,.call ⟨_,_,_⟩,_,_,_,_⟩) rfl (fun K hK=>?_) (AllReadyH.cons (o:=⟨some 7,.alloc _,_,_,_,_⟩) rfl (fun K hK=>?_) (AllReadyH.nil))
     ·
      have HSO:=Lh_ (show SlS q3 (fun x=>w1.heap.size<x∧x<q3.heap.size) A c L from ((HSTd.out.2.2.2.2.tape HGDq3.out (fun x hx=>by have:=HKK.out;unfold TrK at this;omega))).mono (fun x hx=>⟨hx.1,by have:=HGDq3.out.size;omega⟩) (fun _ _ _ _ hu=>hu));go_simp;go_at_call 38;refine (RInsert_any A c L d A2 c2 (fun x=>w1.heap.size<x∧x<q3.heap.size) _ HSO.out (fun x hx=>hx.2) HFEW.out.ok HSDq3.out HVT.out (HOK.out.tape HSTq3.out.2.1 HNG.out)).mono ?_;rintro e' q4 ⟨hb_,v,rfl,hown_⟩;obtain ⟨A3,c3,hv_,hsl_⟩:=hown_.cs;subst hv_;have HSTq4:=Lh_ (HSTq3.out.below hb_);have HGDq4:=Lh_ (grown_below HGDq3.out hb_);have HSI:=Lh_ (show SlS q4 (fun x=>w1.heap.size<x∧x<q4.heap.size) A3 c3 (insR L d) from hsl_.mono (fun x hx=>⟨by rcases hx.1 with h | h;exact h.1;have:=HSTq3.out.2.2.2.1.2.2;omega,hx.2⟩) (fun _ _ _ _ hu=>hu));clear hb_ hown_ hsl_ HSO;refine hK.out _ _ HSTq4.out.2.2.2.1 (fun _=>?_);clear hK K;try simp only [Act.put,sA_,sB_,sC_]
      refine tk1 5 17 (.tuple #[.agg #[.slice A3 (insR L d).length c3],.int .i64 (insE L d)]) rfl (fun w' hS=>by go_simp) HSTq4.out.2.2.2.1 ?_;try simp only [Act.put,sA_,sB_,sC_]
      refine tk1 6 23 (.agg #[.slice A3 (insR L d).length c3]) rfl (fun w' hS=>by go_simp) HSTq4.out.2.2.2.1 ?_;try simp only [Act.put,sA_,sB_,sC_]
      refine tk1 7 24 (.int .i64 (insE L d)) rfl (fun w' hS=>by go_simp) HSTq4.out.2.2.2.1 ?_;try simp only [Act.put,sA_,sB_,sC_]
      refine rd1 8 (o:=⟨some 7,.alloc _,_,_,_,_⟩) rfl (fun K hK=>?_);go_simp;obtain ⟨q5,hq5⟩:∃ z,q4.alloc (.cells #[.slice none 0 0] 28)=z:=⟨_,rfl⟩;have hb_:Below q4.heap.size q4 q5:=by rw [← hq5];exact (Below.refl _ _).alloc (Nat.le_refl _) _
      have HB7q5:=Lh_ (show BoxL q5 q4.heap.size [.slice none 0 0] from box_mk hq5);try rw [hq5]
      clear hq5;have HG7:=Lh_ (show b<q4.heap.size∧w1.heap.size<q4.heap.size∧wd.heap.size≤q4.heap.size from ⟨by have:=HSTq4.out.2.2.2.1.2.2;have:=HKK.out;unfold TrK at this;omega,HSTq4.out.2.2.2.1.2.2,HGDq4.out.size⟩);have HSTq5:=Lh_ (HSTq4.out.below hb_);have HGDq5:=Lh_ (grown_below HGDq4.out hb_);have HSIq5:=Lh_ ((HSI.out.below hb_ (fun x hx=>hx.2)).mono (S':=fun x=>w1.heap.size<x∧x<q5.heap.size∧x≠q4.heap.size) (fun x hx=>⟨hx.1,by have:=hb_.size;omega,by omega⟩) (fun _ _ _ _ hu=>hu));clear hb_;refine hK.out _ _ HSTq5.out.2.2.2.1 (fun _=>?_);clear hK K;try simp only [Act.put,sA_,sB_,sC_]
      have c7:=HB7q5.out.1 0 _ rfl;have c7f:=HB7q5.out.2.1;have HSF:=Lh_ (show ∀ (A':Option Addr) (c':Nat) (L':List Dev),SlS q5 (fun x=>w1.heap.size<x∧x<q5.heap.size∧x≠q4.heap.size) A' c' L'→SlS (q5.setCell ⟨q4.heap.size,0,none⟩ (.slice A3 (insR L d).length c3)) (fun x=>w1.heap.size<x∧x<(q5.setCell ⟨q4.heap.size,0,none⟩ (.slice A3 (insR L d).length c3)).heap.size) A' c' L' from fun A' c' L' h=>(h.set_ (fun x hx=>hx.2.2) _).mono (fun x hx=>⟨hx.1,by simpa using hx.2.1⟩) (fun _ _ _ _ hu=>hu));have HTF:=Lh_ (show TrSt w B b xs k2 w.heap.size w1.heap.size A c L (q5.setCell ⟨q4.heap.size,0,none⟩ (.slice A3 (insR L d).length c3)) from ⟨HSTq5.out.1.set_ (by have:=HG7.out;omega) (by have:=HG7.out;have:=HBW.out;omega) _,grown_set HSTq5.out.2.1 (by have:=HG7.out;have:=HKK.out;unfold TrK at this;omega) _,HSTq5.out.2.2.1.far (by have:=HG7.out;have:=HKK.out;unfold TrK at this;omega) _,HSTq5.out.2.2.2.1.far (by have:=HG7.out;omega) _,HSF.out _ _ _ (((HSTd.out.2.2.2.2.tape HGDq5.out (fun x hx=>by have:=HKK.out;unfold TrK at this;omega))).mono (fun x hx=>⟨hx.1,by have:=HGDq5.out.size;omega,by have:=HG7.out;omega⟩) (fun _ _ _ _ hu=>hu))⟩);have HCF:=Lh_ (show BoxL (q5.setCell ⟨q4.heap.size,0,none⟩ (.slice A3 (insR L d).length c3)) q4.heap.size [.slice A3 (insR L d).length c3] from HB7q5.out.set_ (j:=0) (by simp) _);have HSN:=Lh_ (HSF.out _ _ _ HSIq5.out);refine rd1 9 (o:=⟨none,.store _ _ _,_,_,_,_⟩) rfl (fun K hK=>?_);go_simp;refine hK.out _ _ HTF.out.2.2.2.1 (fun _=>?_);clear hK K;try simp only [Act.put,sA_,sB_,sC_]
      refine tk1 10 8 (.int .i64 (insE L d)) rfl (fun w' hS=>by go_simp) HTF.out.2.2.2.1 ?_;try simp only [Act.put,sA_,sB_,sC_]
      refine wpAnyH_done (by kernel_rfl) ?_ _;go_wp2_with fail;go_meet;exact ⟨q4.heap.size,d,rfl,rfl,⟨k2,A3,c3,HK2.out,HTF.out,HSN.out,HCF.out.1 0 _ rfl⟩⟩
     ·
      go_simp;obtain ⟨q6,hq6⟩:∃ z,q3.alloc (.cells #[.slice none 0 0] 28)=z:=⟨_,rfl⟩;have hb_:Below q3.heap.size q3 q6:=by rw [← hq6];exact (Below.refl _ _).alloc (Nat.le_refl _) _
      have HB7q6:=Lh_ (show BoxL q6 q3.heap.size [.slice none 0 0] from box_mk hq6);try rw [hq6]
      clear hq6;have HG7:=Lh_ (show b<q3.heap.size∧w1.heap.size<q3.heap.size∧wd.heap.size≤q3.heap.size from ⟨by have:=HSTq3.out.2.2.2.1.2.2;have:=HKK.out;unfold TrK at this;omega,HSTq3.out.2.2.2.1.2.2,HGDq3.out.size⟩);have HSTq6:=Lh_ (HSTq3.out.below hb_);have HGDq6:=Lh_ (grown_below HGDq3.out hb_);have HSDq6:=Lh_ ((HSDq3.out.below hb_ (fun x hx=>hx.2)).mono (S':=fun x=>w1.heap.size<x∧x<q6.heap.size∧x≠q3.heap.size) (fun x hx=>⟨hx.1,by have:=hb_.size;omega,by omega⟩) (fun _ _ _ _ hu=>hu));clear hb_;refine hK.out _ _ HSTq6.out.2.2.2.1 (fun _=>?_);clear hK K;try simp only [Act.put,sA_,sB_,sC_]
      refine rd1 4 (o:=⟨some 22,.call ⟨_,_,_⟩,_,_,_,_⟩) rfl (fun K hK=>?_);have HSO:=Lh_ (show SlS q6 (fun x=>w1.heap.size<x∧x<q6.heap.size∧x≠q3.heap.size) A c L from ((HSTd.out.2.2.2.2.tape HGDq6.out (fun x hx=>by have:=HKK.out;unfold TrK at this;omega))).mono (fun x hx=>⟨hx.1,by have:=HGDq6.out.size;omega,by have:=HG7.out;omega⟩) (fun _ _ _ _ hu=>hu));go_simp;go_at_call 38;refine (RInsert_any A c L d A2 c2 (fun x=>w1.heap.size<x∧x<q6.heap.size∧x≠q3.heap.size) _ HSO.out (fun x hx=>hx.2.1) HFEW.out.ok HSDq6.out HVT.out (HOK.out.tape HSTq6.out.2.1 HNG.out)).mono ?_;rintro e' q7 ⟨hb_,v,rfl,hown_⟩;obtain ⟨A3,c3,hv_,hsl_⟩:=hown_.cs;subst hv_;have HSTq7:=Lh_ (HSTq6.out.below hb_);have HGDq7:=Lh_ (grown_below HGDq6.out hb_);have HB7q7:=kb_ HB7q6 hb_;have HSI:=Lh_ (show SlS q7 (fun x=>w1.heap.size<x∧x<q7.heap.size∧x≠q3.heap.size) A3 c3 (insR L d) from hsl_.mono (fun x hx=>⟨by rcases hx.1 with h | h;exact h.1;have:=HSTq6.out.2.2.2.1.2.2;omega,hx.2,by rcases hx.1 with h | h;exact h.2.2;have:=HB7q6.out.2.2;omega⟩) (fun _ _ _ _ hu=>hu));clear hb_ hown_ hsl_ HSO;refine hK.out _ _ HSTq7.out.2.2.2.1 (fun _=>?_);clear hK K;try simp only [Act.put,sA_,sB_,sC_]
      refine tk1 5 17 (.tuple #[.agg #[.slice A3 (insR L d).length c3],.int .i64 (insE L d)]) rfl (fun w' hS=>by go_simp) HSTq7.out.2.2.2.1 ?_;try simp only [Act.put,sA_,sB_,sC_]
      refine tk1 6 23 (.agg #[.slice A3 (insR L d).length c3]) rfl (fun w' hS=>by go_simp) HSTq7.out.2.2.2.1 ?_;try simp only [Act.put,sA_,sB_,sC_]
      refine tk1 7 24 (.int .i64 (insE L d)) rfl (fun w' hS=>by go_simp) HSTq7.out.2.2.2.1 ?_;try simp only [Act.put,sA_,sB_,sC_]
      have c7:=HB7q7.out.1 0 _ rfl;have c7f:=HB7q7.out.2.1;have HSF:=Lh_ (show ∀ (A':Option Addr) (c':Nat) (L':List Dev),SlS q7 (fun x=>w1.heap.size<x∧x<q7.heap.size∧x≠q3.heap.size) A' c' L'→SlS (q7.setCell ⟨q3.heap.size,0,none⟩ (.slice A3 (insR L d).length c3)) (fun x=>w1.heap.size<x∧x<(q7.setCell ⟨q3.heap.size,0,none⟩ (.slice A3 (insR L d).length c3)).heap.size) A' c' L' from fun A' c' L' h=>(h.set_ (fun x hx=>hx.2.2) _).mono (fun x hx=>⟨hx.1,by simpa using hx.2.1⟩) (fun _ _ _ _ hu=>hu));have HTF:=Lh_ (show TrSt w B b xs k2 w.heap.size w1.heap.size A c L (q7.setCell ⟨q3.heap.size,0,none⟩ (.slice A3 (insR L d).length c3)) from ⟨HSTq7.out.1.set_ (by have:=HG7.out;omega) (by have:=HG7.out;have:=HBW.out;omega) _,grown_set HSTq7.out.2.1 (by have:=HG7.out;have:=HKK.out;unfold TrK at this;omega) _,HSTq7.out.2.2.1.far (by have:=HG7.out;have:=HKK.out;unfold TrK at this;omega) _,HSTq7.out.2.2.2.1.far (by have:=HG7.out;omega) _,HSF.out _ _ _ (((HSTd.out.2.2.2.2.tape HGDq7.out (fun x hx=>by have:=HKK.out;unfold TrK at this;omega))).mono (fun x hx=>⟨hx.1,by have:=HGDq7.out.size;omega,by have:=HG7.out;omega⟩) (fun _ _ _ _ hu=>hu))⟩);have HCF:=Lh_ (show BoxL (q7.setCell ⟨q3.heap.size,0,none⟩ (.slice A3 (insR L d).length c3)) q3.heap.size [.slice A3 (insR L d).length c3] from HB7q7.out.set_ (j:=0) (by simp) _);have HSN:=Lh_ (HSF.out _ _ _ HSI.out);refine rd1 9 (o:=⟨none,.store _ _ _,_,_,_,_⟩) rfl (fun K hK=>?_);go_simp;refine hK.out _ _ HTF.out.2.2.2.1 (fun _=>?_);clear hK K;try simp only [Act.put,sA_,sB_,sC_]
      refine tk1 10 8 (.int .i64 (insE L d)) rfl (fun w' hS=>by go_simp) HTF.out.2.2.2.1 ?_;try simp only [Act.put,sA_,sB_,sC_]
      refine wpAnyH_done (by kernel_rfl) ?_ _;go_wp2_with fail;go_meet;exact ⟨q3.heap.size,d,rfl,rfl,⟨k2,A3,c3,HK2.out,HTF.out,HSN.out,HCF.out.1 0 _ rfl⟩⟩
    ·
     go_simp;obtain ⟨q8,hq8⟩:∃ z,wd.alloc (.cells #[.slice none 0 0] 28)=z:=⟨_,rfl⟩;have hb_:Below wd.heap.size wd q8:=by rw [← hq8];exact (Below.refl _ _).alloc (Nat.le_refl _) _
     have HB7q8:=Lh_ (show BoxL q8 wd.heap.size [.slice none 0 0] from box_mk hq8);try rw [hq8]
     clear hq8;have HG7:=Lh_ (show b<wd.heap.size∧w1.heap.size<wd.heap.size∧wd.heap.size≤wd.heap.size from ⟨by have:=HSTd.out.2.2.2.1.2.2;have:=HKK.out;unfold TrK at this;omega,HSTd.out.2.2.2.1.2.2,HGDd.out.size⟩);have HSTq8:=Lh_ (HSTd.out.below hb_);have HGDq8:=Lh_ (grown_below HGDd.out hb_);clear hb_;refine hK.out _ _ HSTq8.out.2.2.2.1 (fun _=>?_);clear hK K;try simp only [Act.put,sA_,sB_,sC_]
     refine rd1 3 (o:=⟨some 21,.call ⟨_,_,_⟩,_,_,_,_⟩) rfl (fun K hK=>?_);go_simp;go_at_call 39;refine (Device_any xs k' B b A c L _ _ (by have:=HK.out;have:=HKX.out;omega) HSTq8.out.1 (HSTq8.out.treeIn HKK.out) (fun d hd=>(HVT.out.small d hd).2) (by have:=HLL.out;omega)).mono ?_;rintro e' q9 ⟨d,A2,c2,k2,rfl,hfew_,hsl_,hk2_,ht_,hg_⟩;have HSTq9:=Lh_ (HSTq8.out.tape HKK.out ht_ hg_);have HFEW:=Lh_ hfew_;have HK2:=Lh_ hk2_;have HGDq9:=Lh_ (grown_trans HGDq8.out hg_);have HB7q9:=Lh_ (HB7q8.out.kept hg_ (fun e=>by have:=Option.some.inj e;have:=HG7.out;omega));have HSDq9:=Lh_ (show SlS q9 (fun x=>w1.heap.size<x∧x<q9.heap.size∧x≠wd.heap.size) A2 c2 d.attrs from hsl_.mono (fun x hx=>⟨by have:=HSTq8.out.2.2.2.1.2.2;omega,hx.2,by have:=HB7q8.out.2.2;omega⟩) (fun _ _ _ _ hu=>hu));clear hfew_ hsl_ hk2_ ht_ hg_;refine hK.out _ _ HSTq9.out.2.2.2.1 (fun _=>?_);clear hK K;try simp only [Act.put,sA_,sB_,sC_]
     refine rd1 4 (o:=⟨some 22,.call ⟨_,_,_⟩,_,_,_,_⟩) rfl (fun K hK=>?_);have HSO:=Lh_ (show SlS q9 (fun x=>w1.heap.size<x∧x<q9.heap.size∧x≠wd.heap.size) A c L from ((HSTd.out.2.2.2.2.tape HGDq9.out (fun x hx=>by have:=HKK.out;unfold TrK at this;omega))).mono (fun x hx=>⟨hx.1,by have:=HGDq9.out.size;omega,by have:=HG7.out;omega⟩) (fun _ _ _ _ hu=>hu));go_simp;go_at_call 38;refine (RInsert_any A c L d A2 c2 (fun x=>w1.heap.size<x∧x<q9.heap.size∧x≠wd.heap.size) _ HSO.out (fun x hx=>hx.2.1) HFEW.out.ok HSDq9.out HVT.out (HOK.out.tape HSTq9.out.2.1 HNG.out)).mono ?_;rintro e' q10 ⟨hb_,v,rfl,hown_⟩;obtain ⟨A3,c3,hv_,hsl_⟩:=hown_.cs;subst hv_;have HSTq10:=Lh_ (HSTq9.out.below hb_);have HGDq10:=Lh_ (grown_below HGDq9.out hb_);have HB7q10:=kb_ HB7q9 hb_;have HSI:=Lh_ (show SlS q10 (fun x=>w1.heap.size<x∧x<q10.heap.size∧x≠wd.heap.size) A3 c3 (insR L d) from hsl_.mono (fun x hx=>⟨by rcases hx.1 with h | h;exact h.1;have:=HSTq9.out.2.2.2.1.2.2;omega,hx.2,by rcases hx.1 with h | h;exact h.2.2;have:=HB7q9.out.2.2;omega⟩) (fun _ _ _ _ hu=>hu));clear hb_ hown_ hsl_ HSO;refine hK.out _ _ HSTq10.out.2.2.2.1 (fun _=>?_);clear hK K;try simp only [Act.put,sA_,sB_,sC_]
     refine tk1 5 17 (.tuple #[.agg #[.slice A3 (insR L d).length c3],.int .i64 (insE L d)]) rfl (fun w' hS=>by go_simp) HSTq10.out.2.2.2.1 ?_;try simp only [Act.put,sA_,sB_,sC_]
     refine tk1 6 23 (.agg #[.slice A3 (insR L d).length c3]) rfl (fun w' hS=>by go_simp) HSTq10.out.2.2.2.1 ?_;try simp only [Act.put,sA_,sB_,sC_]
     refine tk1 7 24 (.int .i64 (insE L d)) rfl (fun w' hS=>by go_simp) HSTq10.out.2.2.2.1 ?_;try simp only [Act.put,sA_,sB_,sC_]
     have c7:=HB7q10.out.1 0 _ rfl;have c7f:=HB7q10.out.2.1;have HSF:=Lh_ (show ∀ (A':Option Addr) (c':Nat) (L':List Dev),SlS q10 (fun x=>w1.heap.size<x∧x<q10.heap.size∧x≠wd.heap.size) A' c' L'→SlS (q10.setCell ⟨wd.heap.size,0,none⟩ (.slice A3 (insR L d).length c3)) (fun x=>w1.heap.size<x∧x<(q10.setCell ⟨wd.heap.size,0,none⟩ (.slice A3 (insR L d).length c3)).heap.size) A' c' L' from fun A' c' L' h=>(h.set_ (fun x hx=>hx.2.2) _).mono (fun x hx=>⟨hx.1,by simpa using hx.2.1⟩) (fun _ _ _ _ hu=>hu));have HTF:=Lh_ (show TrSt w B b xs k2 w.heap.size w1.heap.size A c L (q10.setCell ⟨wd.heap.size,0,none⟩ (.slice A3 (insR L d).length c3)) from ⟨HSTq10.out.1.set_ (by have:=HG7.out;omega) (by have:=HG7.out;have:=HBW.out;omega) _,grown_set HSTq10.out.2.1 (by have:=HG7.out;have:=HKK.out;unfold TrK at this;omega) _,HSTq10.out.2.2.1.far (by have:=HG7.out;have:=HKK.out;unfold TrK at this;omega) _,HSTq10.out.2.2.2.1.far (by have:=HG7.out;omega) _,HSF.out _ _ _ (((HSTd.out.2.2.2.2.tape HGDq10.out (fun x hx=>by have:=HKK.out;unfold TrK at this;omega))).mono (fun x hx=>⟨hx.1,by have:=HGDq10.out.size;omega,by have:=HG7.out;omega⟩) (fun _ _ _ _ hu=>hu))⟩);have HCF:=Lh_ (show BoxL (q10.setCell ⟨wd.heap.size,0,none⟩ (.slice A3 (insR L d).length c3)) wd.heap.size [.slice A3 (insR L d).length c3] from HB7q10.out.set_ (j:=0) (by simp) _);have HSN:=Lh_ (HSF.out _ _ _ HSI.out);refine rd1 9 (o:=⟨none,.store _ _ _,_,_,_,_⟩) rfl (fun K hK=>?_);go_simp;refine hK.out _ _ HTF.out.2.2.2.1 (fun _=>?_);clear hK K;try simp only [Act.put,sA_,sB_,sC_]
     refine tk1 10 8 (.int .i64 (insE L d)) rfl (fun w' hS=>by go_simp) HTF.out.2.2.2.1 ?_;try simp only [Act.put,sA_,sB_,sC_]
     refine wpAnyH_done (by kernel_rfl) ?_ _;go_wp2_with fail;go_meet;exact ⟨wd.heap.size,d,rfl,rfl,⟨k2,A3,c3,HK2.out,HTF.out,HSN.out,HCF.out.1 0 _ rfl⟩⟩
   case rest =>
   obtain ⟨g7,d,rfl,rfl,hq⟩:=hcut;obtain ⟨k2,A3,c3,hk2,hst,hsl,hc7⟩:=hq.out;clear hq HST;have HK2:=Lh_ hk2;have HST:=Lh_ hst;have HSL:=Lh_ hsl;have HC7:=Lh_ hc7;clear hk2 hst hsl hc7;obtain ⟨z,hz⟩:∃ z,insE L d=z:=⟨_,rfl⟩;rw [hz];have HZ:=Lh_ hz;clear hz;by_cases h0:z=0
   ·
    have e0:(z == 0)=true:=beq_iff_eq.2 h0;have HVN:=Lh_ (VT_tree HVT.out (by rw [HZ.out,h0]));clear h0;have c7:=HC7.out;have t0:=HST.out.2.2.2.1.1 0 _ rfl;have tf:=HST.out.2.2.2.1.2.1;have HSN:=Lh_ (HST.out.put HKK.out HSL.out);go_wp2;go_roundw
    case rel=>exact ⟨j - 1,insR L d,A3,c3,k2,by first | rfl | go_num,⟨by omega,by omega,by rw [HVN.out.2];push_cast;omega⟩,HVN.out.1,by have:=HKB.out;have:=HK2.out;show (k2:Int)+31 * (j - 1)≤_;omega,HSN⟩
    case measure=>simp [intOf];omega
   ·
    have e0:(z == 0)=false:=beq_eq_false_iff_ne.2 h0;clear h0;go_wp2;go_roundw
    case rel=>exact ⟨j - 1,L,A,c,k2,by first | rfl | go_num,⟨by omega,by omega,by omega⟩,HVT.out,by have:=HKB.out;have:=HK2.out;show (k2:Int)+31 * (j - 1)≤_;omega,HST⟩
    case measure=>simp [intOf];omega
  ·
   have t0:=HST.out.2.2.2.1.1 0 _ rfl;have r0:=HST.out.2.2.1.1 0 _ rfl;have rf:=HST.out.2.2.1.2.1;go_wp2;refine bodyPost_ret (v:=.agg #[.slice A L.length c]) (by simp [results,Tryz.results10,go_sem,r0,rf]) rfl ⟨A,c,L,k',rfl,HVT.out,by omega,?_,by have:=HKX.out;omega,HST.out.1.set_ (by have:=HBW.out;omega) (by have:=HBW.out;omega) _,grown_set HST.out.2.1 (Nat.le_refl _) _⟩;exact (HST.out.2.2.2.2.set_ (fun x hx=>by have:=HGw1.out;omega) _).mono (fun x hx=>⟨by have:=HGw1.out;omega,by simpa using hx.2⟩) (fun _ _ _ _ hu=>hu)
def SomePost (xs:List Int) (k B b:Nat) (w:World) (e:Ending) (w':World):Prop:=∃ (n:Int) (k':Nat),e=.returned (.int .i64 n)∧(-1≤n∧n≤1073741824)∧k'≤k+2∧TapeAt w' B b xs k'∧w.grownBy w' (some b)
set_option maxRecDepth 100000 in
set_option maxHeartbeats 4000000 in
theorem Some_any (xs:List Int) (k B b:Nat) (A:Option Addr) (c:Nat) (L:List Dev) (S:Nat→Prop) (w:World) (hk:k≤2 ^ 38) (ht:TapeAt w B b xs k) (htr:TreeIn w b S A c L) (hL:∀ d ∈ L,0≤d.idx∧d.idx≤1073741824) (hll:L.length≤1000):Calls Tryz.prog 16 #[.pointer (some ⟨b,0,none⟩),.agg #[.slice A L.length c]] w (SomePost xs k B b w):=by
 have HT:=Lh_ ht;have HK:=Lh_ hk;have HTR:=Lh_ htr;have HL:=Lh_ hL;have HLL:=Lh_ hll;have hx1:=htr.sl.1;have hx2:=htr.sl.2.1;unfold maxLen at hx2;clear ht hk htr hL hll;have HBW:=Lh_ (show b<w.heap.size∧B≤b by obtain ⟨_,_,_,_,_,_,h1,h2⟩:=HT.out;exact ⟨h2,h1⟩);go_enter Tryz.func16,Tryz.ntmps16;go_upto_region 1 with fail
 obtain ⟨w1,hw1,hbw1,HGw1,HXtw1⟩:=bx_ w [.slice A L.length c] 28;try simp only [hw1]
 have HBw1:=Lh_ hbw1;clear hw1 hbw1;try rw [← HGw1.out]
 have ct0:=HXtw1.out.1 0 _ rfl;have HT1:=Lh_ (HT.out.kept (grown_none HBw1.out) (fun e=>by cases e) (fun g e=>by cases e));have HG1:=Lh_ (grown_any (row:=some b) HBw1.out);by_cases hn:0<L.length
 ·
  have i1:(0:Int)<(L.length:Int):=by omega
  go_wp2_with fail;refine (Next_lit 8 xs k B b _ (by have:=HK.out;omega) HT1.out (by omega) (by omega)).mono ?_;rintro e v2 ⟨f,hf0,hf1,rfl,ht_,hg_⟩;have HT2:=Lh_ ht_;have HG2:=Lh_ (grown_trans HG1.out hg_);have HX2:=Lh_ (HXtw1.out.kept hg_ (fun e=>by have:=Option.some.inj e;have:=HBW.out.1;omega));clear ht_ hg_;by_cases hf:0<f
  ·
   clear ct0;go_wp2_with fail;have HL1:=Lh_ (show (L.length:Int)≤1000000 by have:=HLL.out;omega);have HL2:=Lh_ (show (1:Int)≤(L.length:Int) by omega);have HKX:=Lh_ (show k+1≤2 ^ 40 by have:=HK.out;omega);refine wp_region_held_drew (S:=fun w'=>BoxL w' w.heap.size [.slice A L.length c]) (by kernel_rfl) HX2.out.drew (fun hS0=>?_);obtain ⟨wd,hwd⟩:∃ z,v2.drew=z:=⟨_,rfl⟩;have hb_:Below v2.heap.size v2 wd:=by rw [← hwd];exact below_drewN_self _ _ 1
   have HTd:=Lh_ (HT2.out.kept (grown_none hb_) (fun e=>by cases e) (fun g e=>by cases e));have HGd:=Lh_ (grown_below HG2.out hb_);rw [hwd] at hS0 ⊢;have HS0:=Lh_ hS0;clear hwd hb_ hS0;refine tk1 0 16 (.pointer (some ⟨w.heap.size,0,none⟩)) rfl (fun w' hS=>by go_simp) HS0.out ?_;try simp only [Act.put,sA_,sB_,sC_]
   refine tk1 1 17 (.slice A L.length c) rfl (fun w' hS=>by (have u:=hS.1 0 _ rfl;go_simp)) HS0.out ?_;try simp only [Act.put,sA_,sB_,sC_]
   refine tk1 2 18 (.pointer (some ⟨b,0,none⟩)) rfl (fun w' hS=>by go_simp) HS0.out ?_;try simp only [Act.put,sA_,sB_,sC_]
   refine tk1 3 19 (.int .i64 L.length) rfl (fun w' hS=>by go_simp) HS0.out ?_;try simp only [Act.put,sA_,sB_,sC_]
   refine rd1 4 (o:=⟨some 20,.call ⟨_,_,_⟩,_,_,_,_⟩) rfl (fun K hK=>?_);go_simp;go_at_call 37;refine (Next_lit (L.length:Int) xs (k+1) B b _ HKX.out HTd.out HL2.out HL1.out).mono ?_;rintro e' v4 ⟨m,hm0,hm1,rfl,ht_,hg_⟩;have HT4:=Lh_ ht_;have HG4:=Lh_ (grown_trans HGd.out hg_);have HS4:=Lh_ (HS0.out.kept hg_ (fun e=>by have:=Option.some.inj e;have:=HBW.out.1;omega));clear ht_ hg_;refine hK.out _ _ HS4.out (fun _=>?_);clear hK K;try simp only [Act.put,sA_,sB_,sC_]
   obtain ⟨m,rfl⟩:=Int.eq_ofNat_of_zero_le hm0;have hml:m<L.length:=by omega
   have i3:(m:Int)<(L.length:Int):=by omega
   obtain ⟨b3,o3,rfl,hb3,A2,c2,-,-,hdc⟩:=(HTR.out.tape HG4.out).out.dev hml;obtain ⟨y,hy⟩:∃ y,L[m]'hml=y:=⟨_,rfl⟩;have hyb:=HL.out _ (List.getElem_mem hml);rw [hy] at hyb hdc;have y0:=hdc.1;have HYB:=Lh_ hyb;clear hdc hy hyb hm1;refine tk1 5 21 (.pointer (some ⟨b3,o3+m * 10,none⟩)) rfl (fun w' hS=>by go_simp) HS4.out ?_;try simp only [Act.put,sA_,sB_,sC_]
   refine tk1 6 22 (.pointer (some ⟨b3,o3+m * 10,none⟩)) rfl (fun w' hS=>by go_simp) HS4.out ?_;try simp only [Act.put,sA_,sB_,sC_]
   refine rd1 7 (o:=⟨some 23,.load _ _,_,_,_,_⟩) rfl (fun K hK=>?_);go_simp;refine hK.out _ _ HS4.out (fun _=>?_);clear hK K;try simp only [Act.put,sA_,sB_,sC_]
   refine tk1 8 4 (.int .i64 y.idx) rfl (fun w' hS=>by go_simp) HS4.out ?_;try simp only [Act.put,sA_,sB_,sC_]
   refine wpAnyH_done (by kernel_rfl) ?_ _;go_wp2;go_ret;exact ⟨y.idx,k+1+1,rfl,⟨by have:=HYB.out;omega,by have:=HYB.out;omega⟩,by omega,HT4.out,HG4.out⟩
  ·
   go_wp2_with fail;refine (Next_lit 40 xs (k+1) B b _ (by have:=HK.out;omega) HT2.out (by omega) (by omega)).mono ?_;rintro e v3 ⟨z,hz0,hz1,rfl,ht_,hg_⟩;have HT3:=Lh_ ht_;have HG3:=Lh_ (grown_trans HG2.out hg_);clear ht_ hg_;go_wp2;go_ret;exact ⟨z - 1,k+1+1,rfl,⟨by omega,by omega⟩,by omega,HT3.out,HG3.out⟩
 ·
  have i1:¬ (0:Int)<(L.length:Int):=by omega
  go_wp2_with fail;refine (Next_lit 40 xs (k) B b _ (by have:=HK.out;omega) HT1.out (by omega) (by omega)).mono ?_;rintro e v3 ⟨z,hz0,hz1,rfl,ht_,hg_⟩;have HT3:=Lh_ ht_;have HG3:=Lh_ (grown_trans HG1.out hg_);clear ht_ hg_;go_wp2;go_ret;exact ⟨z - 1,k+1,rfl,⟨by omega,by omega⟩,by omega,HT3.out,HG3.out⟩
end Go.Proofs.YtjgllhlilbchpaaGreatDoor
namespace Go.Cold
open Go Go.RowKit
end Go.Cold
namespace Go.Proofs.YtjgllhlilbchpaaGreatDoor
open Go.RowKit Go.Cold
end Go.Proofs.YtjgllhlilbchpaaGreatDoor
namespace Go.Cold
open Go Go.RowKit
def orgM (L:List Dev):Int→Option ByteArray:=L.foldl (fun f d=>updF f d.idx (((f d.par).getD ByteArray.empty ++ ⟨#[47]⟩) ++ d.orig)) (fun _=>none)
def plGo:List Dev→Nat→(Int→Option Int)→(Int→Option Int)
 | [],_,f=>f
 | d :: r,i,f=>plGo r (i+1) (updF f d.idx (i:Int))
def plM (L:List Dev):Int→Option Int:=plGo L 0 (fun _=>none)
theorem plGo_snoc:∀ (l:List Dev) (d:Dev) (i:Nat) (f:Int→Option Int),plGo (l ++ [d]) i f=updF (plGo l i f) d.idx ((i+l.length:Nat):Int)
 | [],d,i,f=>by simp [plGo]
 | x :: l,d,i,f=>by
  rw [List.cons_append,plGo,plGo,plGo_snoc l d (i+1),List.length_cons,show i+1+l.length=i+(l.length+1) by omega]
theorem plM_step {L:List Dev} {k:Nat} {y:Dev} (hk:k<L.length) (hy:L[k]? = some y):plM (L.take (k+1))=updF (plM (L.take k)) y.idx (k:Int):=by
 rw [List.take_add_one,hy];show plM (L.take k ++ [y])=_
 unfold plM;rw [plGo_snoc,Nat.zero_add,List.length_take,Nat.min_eq_left (by omega)]
theorem orgM_step {L:List Dev} {k:Nat} {y:Dev} (hy:L[k]? = some y):orgM (L.take (k+1))=updF (orgM (L.take k)) y.idx (((orgM (L.take k) y.par).getD ByteArray.empty ++ ⟨#[47]⟩) ++ y.orig):=by
 rw [List.take_add_one,hy];show orgM (L.take k ++ [y])=_
 unfold orgM;rw [List.foldl_append];rfl
theorem orgM_fold:∀ (L:List Dev) (f:Int→Option ByteArray) (s:Int→ByteArray) (ins:List Int),(∀ n,(f n).getD ByteArray.empty=s n)→(∀ n,(f n).isSome=ins.contains n)→
  (∀ n,((L.foldl (fun f d=>updF f d.idx (((f d.par).getD ByteArray.empty ++ ⟨#[47]⟩) ++ d.orig)) f) n).getD ByteArray.empty=L.foldl strStep s n)∧
  (∀ n,((L.foldl (fun f d=>updF f d.idx (((f d.par).getD ByteArray.empty ++ ⟨#[47]⟩) ++ d.orig)) f) n).isSome=((idxs L).contains n || ins.contains n))
 | [],f,s,ins,h1,h2=>⟨h1,fun n=>by rw [show (idxs ([]:List Dev)).contains n=false from rfl,Bool.false_or];exact h2 n⟩
 | d :: r,f,s,ins,h1,h2=>by
  have h:=orgM_fold r (updF f d.idx (((f d.par).getD ByteArray.empty ++ ⟨#[47]⟩) ++ d.orig)) (strStep s d) (d.idx :: ins) (fun n=>by
   unfold updF strStep;by_cases hn:n=d.idx
   · rw [if_pos hn,if_pos hn,h1];rfl
   · rw [if_neg hn,if_neg hn,h1]) (fun n=>by
   unfold updF;rw [List.contains_cons];by_cases hn:n=d.idx
   · rw [if_pos hn];simp [hn]
   · rw [if_neg hn,h2];simp [hn])
  refine ⟨h.1,fun n=>?_⟩;rw [List.foldl_cons,h.2 n,List.contains_cons];show _=((d.idx :: idxs r).contains n || _)
  rw [List.contains_cons];cases (n == d.idx) <;> cases (idxs r).contains n <;> simp
theorem orgM_str (L:List Dev) (n:Int):(orgM L n).getD ByteArray.empty=strF L n:=(orgM_fold L (fun _=>none) (fun _=>⟨#[]⟩) [] (fun _=>rfl) (fun _=>rfl)).1 n
theorem orgM_some (L:List Dev) (n:Int):(orgM L n).isSome=(idxs L).contains n:=by
 have h:=(orgM_fold L (fun _=>none) (fun _=>⟨#[]⟩) [] (fun _=>rfl) (fun _=>rfl)).2 n;rw [show ([]:List Int).contains n=false from rfl,Bool.or_false] at h;exact h
theorem str_size_in {m:Nat}:∀ (L:List Dev) (s:Int→ByteArray) (t:Nat),(∀ n,(s n).size≤t)→(∀ d ∈ L,d.orig.size≤m)→∀ n,(L.foldl strStep s n).size≤t+L.length * (m+1)
 | [],s,t,h,_,n=>by simpa using h n
 | d :: r,s,t,h,hm,n=>by
  have h2:=str_size_in r (strStep s d) (t+(m+1)) (fun n=>by
   unfold strStep;have h3:=hm d List.mem_cons_self;split
   ·
    rw [ByteArray.size_append,ByteArray.size_append]
    have h4:=h d.par;have h5:(⟨#[47]⟩:ByteArray).size=1:=rfl;omega
   · have:=h n;omega) (fun x hx=>hm x (List.mem_cons_of_mem _ hx)) n
  rw [List.foldl_cons,List.length_cons,Nat.succ_mul];omega
theorem str_size {L:List Dev} (h:∀ d ∈ L,d.orig.size≤32) (hl:L.length≤256) (n:Int):(strF L n).size≤8448:=by
 have h1:=str_size_in L (fun _=>⟨#[]⟩) 0 (fun _=>Nat.le_refl _) h n;have h2:=Nat.mul_le_mul_right 33 hl;unfold strF;omega
def LkSt (P:Program) (tI tS:TypeId) (w0:World) (g1 g2 g3 bp bo:Nat) (A:Option Addr) (c:Nat) (L:List Dev) (k:Nat) (w:World):Prop :=
 Below w0.heap.size w0 w∧BoxL w g1 [.slice A L.length c]∧BoxL w g2 [.slice none 0 0,.map none,.map none]∧BoxL w g3 [.slice A L.length c,.map (some bp),.map (some bo)]∧MapV P tI tI w bp k (plM (L.take k))∧MapV P tI tS w bo k (orgM (L.take k))
theorem LkSt.below {P:Program} {tI tS:TypeId} {w0 w w':World} {g1 g2 g3 bp bo c k:Nat} {A:Option Addr} {L:List Dev} (h:LkSt P tI tS w0 g1 g2 g3 bp bo A c L k w) (hb:Below w.heap.size w w'):LkSt P tI tS w0 g1 g2 g3 bp bo A c L k w':=by
 obtain ⟨h1,h2,h3,h4,h5,h6⟩:=h;exact ⟨h1.trans (hb.mono h1.size),h2.kept (grown_none hb) (fun e=>by cases e),h3.kept (grown_none hb) (fun e=>by cases e),h4.kept (grown_none hb) (fun e=>by cases e),h5.next hb,h6.next hb⟩
section
variable {α:Type} [El α] {P:Program} {k e t:TypeId} {w w':World} {b n:Nat} {f:Int→Option α}
theorem MapV.update (h:MapV P k e w b n f) (ht:P.underlying t=some (.map k e)) (hk:P.underlying k=some (.int .i64)) (he:P.underlying e=some (El.desc (α:=α))) {i:Int} {c:α} (hi:okI i) (hc:El.ok c) (hn:n<maxLen) :
  ∃ w',(Instr.mapUpdate t (.map (some b)) (.int .i64 i) (El.val c)).run P w=.ok () w'∧MapV P k e w' b (n+1) (updF f i c)∧w.grownBy w' (some b):=by
 obtain ⟨D,h1,h2⟩:=h;obtain ⟨w',hr,r1,r2⟩:=h1.update (Maps.int_keyed hk) ht hn (Maps.keyOf_int_mk hk (wf_i64.2 hi)) (El.rd he hc);refine ⟨w',hr,⟨_,r1,fun j hj=>?_⟩,r2⟩;have hM:=h1.isMap;have hK1:WideAt.IsKeyLit (.int .i64 i):=(Maps.int_keyed hk).key (Maps.keyOf_int_mk hk (wf_i64.2 hi));unfold updF;by_cases hji:j=i
 ·
  subst hji
  rw [if_pos rfl];exact ⟨Maps.has_put_same hM hK1 _,(fun z a ha=>by obtain rfl:=Option.some.inj ha;exact Maps.atKey_put_same hM hK1 _ z),(fun z h=>by cases h)⟩
 ·
  rw [if_neg hji]
  have hne:(Lit.int .i64 j:Lit)≠.int .i64 i:=fun h=>hji (by injection h)
  obtain ⟨e1,e2,e3⟩:=h2 j hj;exact ⟨(Maps.has_put_other hne _).trans e1,fun z a ha=>(Maps.atKey_put_other hne _ z).trans (e2 z a ha),fun z hz=>(Maps.atKey_put_other hne _ z).trans (e3 z hz)⟩
theorem step_put {ops:Array Oper} {o:Oper} {a:Act} {K:Act→World→Prop} {Q:Exit→Act→World→Prop} {Z:Prop} (hgd:o.guard=none) (m x v:Operand) (hop:o.op=Op.mapUpdate t m x v)
  (h:MapV P k e w b n f) (ht:P.underlying t=some (.map k e)) (hk:P.underlying k=some (.int .i64)) (he:P.underlying e=some (El.desc (α:=α))) (i:Int) (c:α) (hi:okI i) (hc:El.ok c) (hn:n<maxLen)
  (hm:a.eval m=.map (some b)) (hx:a.eval x=.int .i64 i) (hv:a.eval v=El.val c) (hK:∀ w',MapV P k e w' b (n+1) (updF f i c)→w.grownBy w' (some b)→K (a.put o.dst undef) w') :
  if Region.wanted o (yielded ops a.tmps)=true then Oper.wp P o a w K Q else Z:=by
 have hw:Region.wanted o (yielded ops a.tmps)=true:=by simp [Region.wanted,hgd]
 rw [if_pos hw];obtain ⟨w',hr,r1,r2⟩:=h.update ht hk he hi hc hn;unfold Oper.wp;simp [execOp,hop,hm,hx,hv,hr,Result.andThen]
 exact hK w' r1 r2
end
end Go.Cold
namespace Go.Proofs.YtjgllhlilbchpaaGreatDoor
open Go.RowKit Go.Cold
theorem info_str2:(Tryz.prog.info? 9).map (fun i=>(i.zero,i.size))=some (some (.string ByteArray.empty),1):=by kernel_rfl
theorem info_int2:(Tryz.prog.info? 3).map (fun i=>(i.zero,i.size))=some (some (.int .i64 0),1):=by kernel_rfl
theorem zero_str (w:World):(zeroValue 9).run Tryz.prog w=.ok (El.val (El.zero:ByteArray)) w:=(zero_of_info info_str2).1 w
theorem zero_int (w:World):(zeroValue 3).run Tryz.prog w=.ok (El.val (El.zero:Int)) w:=(zero_of_info info_int2).1 w
theorem look_str {w:World} {b n:Nat} {f:Int→Option ByteArray} (h:MapV Tryz.prog 3 9 w b n f) {i:Int} (hi:okI i):(Instr.lookup 75 (.map (some b)) (.int .i64 i) false).run Tryz.prog w=.ok (.string ((f i).getD ByteArray.empty)) w :=
 h.look Tryz.underlying75 Tryz.underlying3 Tryz.underlying9 (zero_str w) hi
theorem look_str_ok {w:World} {b n:Nat} {f:Int→Option ByteArray} (h:MapV Tryz.prog 3 9 w b n f) {i:Int} (hi:okI i):(Instr.lookup 75 (.map (some b)) (.int .i64 i) true).run Tryz.prog w=.ok (.tuple #[.string ((f i).getD ByteArray.empty),.bool (f i).isSome]) w :=
 h.look_ok Tryz.underlying75 Tryz.underlying3 Tryz.underlying9 (zero_str w) hi
theorem look_int_ok {w:World} {b n:Nat} {f:Int→Option Int} (h:MapV Tryz.prog 3 3 w b n f) {i:Int} (hi:okI i):(Instr.lookup 110 (.map (some b)) (.int .i64 i) true).run Tryz.prog w=.ok (.tuple #[.int .i64 ((f i).getD 0),.bool (f i).isSome]) w :=
 h.look_ok Tryz.underlying110 Tryz.underlying3 Tryz.underlying3 (zero_int w) hi
def LookPost (A:Option Addr) (c:Nat) (L:List Dev) (w:World) (e:Ending) (w':World):Prop:=Below w.heap.size w w'∧∃ bp bo:Nat,e=.returned (.agg #[.slice A L.length c,.map (some bp),.map (some bo)])∧MapV Tryz.prog 3 3 w' bp L.length (plM L)∧MapV Tryz.prog 3 9 w' bo L.length (orgM L)∧w.heap.size≤bp∧w.heap.size≤bo
set_option maxRecDepth 100000 in
set_option maxHeartbeats 4000000 in
theorem look_any (A:Option Addr) (c:Nat) (L:List Dev) (w:World) (B:Nat) (hB:B≤w.heap.size) (hx:Sl w B A c L) (hv:∀ d ∈ L,d.orig.size≤32) (hl:L.length≤256):Calls Tryz.prog 91 #[.agg #[.slice A L.length c]] w (LookPost A c L w):=by
 have HX:=Lh_ hx;have HB:=Lh_ hB;have HV:=Lh_ hv;have HL:=Lh_ hl;have hx1:=hx.1;have hx2:=hx.2.1;unfold maxLen at hx2;clear hx hB hv hl;go_enter Tryz.func91,Tryz.ntmps91;go_upto_region 1 with fail
 obtain ⟨w1,hw1,hbw1,HGw1,HXtw1⟩:=bx_ w [.slice A L.length c] 28;try simp only [hw1]
 have HBw1:=Lh_ hbw1;clear hw1 hbw1;try rw [← HGw1.out]
 obtain ⟨w2,hw2,hbw2,HGw2,HXrw2⟩:=bx_ w1 [.slice none 0 0,.map none,.map none] 112;try simp only [hw2]
 have HBw2:=tb_ HBw1 hbw2;have tw2:=kb_ HXtw1 hbw2;clear hw2 hbw2;try rw [← HGw2.out]
 have ct0:=tw2.out.1 0 _ rfl;have cr0:=HXrw2.out.1 0 _ rfl;have cr1:=HXrw2.out.1 1 _ rfl;have cr2:=HXrw2.out.1 2 _ rfl;have hmk1:=fun z=>run_makeMap (P:=Tryz.prog) 110 z
 have hmk2:=fun z=>run_makeMap (P:=Tryz.prog) 75 z
 go_upto_region 2 with fail
 clear hmk1 hmk2;obtain ⟨w3,hw3⟩:∃ z,w2.alloc (.map #[] 0)=z:=⟨_,rfl⟩;obtain ⟨w4,hw4⟩:∃ z,w3.alloc (.map #[] 0)=z:=⟨_,rfl⟩;obtain ⟨w5,hw5⟩:∃ z,w4.alloc (.cells #[.slice A L.length c,.map (some w2.heap.size),.map (some w3.heap.size)] 112)=z:=⟨_,rfl⟩;have hb3:Below w2.heap.size w2 w3:=by rw [← hw3];exact (Below.refl _ _).alloc (Nat.le_refl _) _
 have hb4:Below w3.heap.size w3 w4:=by rw [← hw4];exact (Below.refl _ _).alloc (Nat.le_refl _) _
 have hb5:Below w4.heap.size w4 w5:=by rw [← hw5];exact (Below.refl _ _).alloc (Nat.le_refl _) _
 have hm3:MapV Tryz.prog 3 3 w3 w2.heap.size 0 (fun _=>(none:Option Int)):=by rw [← hw3];exact MapV.made w2 _ _ _
 have hm4:MapV Tryz.prog 3 9 w4 w3.heap.size 0 (fun _=>(none:Option ByteArray)):=by rw [← hw4];exact MapV.made w3 _ _ _
 have hx5:BoxL w5 w4.heap.size [.slice A L.length c,.map (some w2.heap.size),.map (some w3.heap.size)]:=box_mk hw5;have HG3:=Lh_ (show w3.heap.size=w2.heap.size+1 by rw [← hw3];simp);have HG4:=Lh_ (show w4.heap.size=w3.heap.size+1 by rw [← hw4];simp);simp only [hw3];try rw [show w2.heap.size+1=w3.heap.size from HG3.out.symm]
 simp only [hw4];try simp only [hw5]
 try rw [show w3.heap.size+1=w4.heap.size from HG4.out.symm]
 have hb25:=hb3.trans ((hb4.trans (hb5.mono hb4.size)).mono hb3.size);have HST:=Lh_ (show LkSt Tryz.prog 3 9 w w.heap.size w1.heap.size w4.heap.size w2.heap.size w3.heap.size A c L 0 w5 from ⟨HBw2.out.trans (hb25.mono HBw2.out.size),tw2.out.kept (grown_none hb25) (fun e=>by cases e),HXrw2.out.kept (grown_none hb25) (fun e=>by cases e),hx5,(hm3.next hb4).next hb5,hm4.next hb5⟩);clear hw3 hw4 hw5 hb3 hb4 hb5 hm3 hm4 hx5 hb25;clear ct0 cr0 cr1 cr2;have t0:=HST.out.2.1.1 0 _ rfl;go_wp2_with fail;clear t0;go_loopw [15] (fun i wr=>∃ k:Nat,k≤L.length∧i=.int .i64 k∧Hid (LkSt Tryz.prog 3 9 w w.heap.size w1.heap.size w4.heap.size w2.heap.size w3.heap.size A c L k wr)) (fun i _=>L.length - (intOf i).toNat)
 case atStart=>exact ⟨0,Nat.zero_le _,rfl,HST⟩
 case round =>
  obtain ⟨k,hk,rfl,HST⟩:=hrel;by_cases hlt:k<L.length
  ·
   have i1:(k:Int)<(L.length:Int):=by omega
   obtain ⟨b3,o3,rfl,hb3,A3,c3,hok3,-,hcs3⟩:=(HX.out.keep (HST.out.1.mono HB.out)).dev hlt;have hxk:L[k]? = some L[k]:=List.getElem?_eq_getElem hlt;have hvk:=HV.out _ (List.getElem_mem hlt);obtain ⟨y,hy⟩:∃ y,L[k]'hlt=y:=⟨_,rfl⟩;rw [hy] at hok3 hcs3 hxk hvk;have HXK:=Lh_ hxk;have HVK:=Lh_ hvk;have HOK3:=Lh_ hok3;have HB3:=Lh_ hb3;clear hxk hvk hok3 hb3 hy;obtain ⟨y0,y1,y2,y3,y4,y5,y6,y7,y8,y9⟩:=hcs3;go_upto_region 5 with fail
   clear y0 y1 y2 y3 y4 y5 y6 y7 y8 y9;obtain ⟨v1,hv1⟩:∃ z,wr.alloc (.cells #[.int .i64 y.idx,.int .i64 y.par,.string y.nm,.string y.orig,.string y.sub,.string y.drv,.string y.ali,.int .i64 y.kind,.int .i64 y.num,.slice A3 y.attrs.length c3] 32)=z:=⟨_,rfl⟩;have hb_:Below wr.heap.size wr v1:=by rw [← hv1];exact (Below.refl _ _).alloc (Nat.le_refl _) _
   have HY:=Lh_ (show BoxL v1 wr.heap.size [.int .i64 y.idx,.int .i64 y.par,.string y.nm,.string y.orig,.string y.sub,.string y.drv,.string y.ali,.int .i64 y.kind,.int .i64 y.num,.slice A3 y.attrs.length c3] from box_mk hv1);have HST1:=Lh_ (HST.out.below hb_);try simp only [hv1]
   clear hv1 hb_;have z1:=HST1.out.2.2.2.1.1 2 _ rfl;have p1:=HY.out.1 1 _ rfl;have p3:=HY.out.1 3 _ rfl;have hlk:=look_str HST1.out.2.2.2.2.2 HOK3.out.2.1;have hsz:=orgM_str (L.take k) y.par;obtain ⟨s,hs⟩:∃ s,(orgM (L.take k) y.par).getD ByteArray.empty=s:=⟨_,rfl⟩;rw [hs] at hlk hsz;have hs2:s.size≤8448:=by rw [hsz];exact str_size (fun d hd=>HV.out d (List.mem_of_mem_take hd)) (by rw [List.length_take];have:=HL.out;omega) _
   have HS:=Lh_ hs;have HS2:=Lh_ hs2;clear hs hsz;have hs3:¬ 9223372036854775807<s.size+1:=by omega
   have hs4:¬ 9223372036854775807<s.size+1+y.orig.size:=by have:=HVK.out;omega
   go_upto_region 6 with fail
   clear hlk z1 p1 p3 hs2;clear hs3 hs4;refine wp_region_held_drew (S:=fun w'=>BoxL w' w4.heap.size [.slice (some ⟨b3,o3,none⟩) L.length c,.map (some w2.heap.size),.map (some w3.heap.size)]∧BoxL w' wr.heap.size [.int .i64 y.idx,.int .i64 y.par,.string y.nm,.string y.orig,.string y.sub,.string y.drv,.string y.ali,.int .i64 y.kind,.int .i64 y.num,.slice A3 y.attrs.length c3]) (by kernel_rfl) ⟨HST1.out.2.2.2.1.drew,HY.out.drew⟩ (fun hS0=>?_);obtain ⟨wd,hwd⟩:∃ z,v1.drew=z:=⟨_,rfl⟩;have hb_:Below v1.heap.size v1 wd:=by rw [← hwd];exact below_drewN_self _ _ 1
   rw [hwd] at hS0 ⊢;have HSTd:=Lh_ (HST1.out.below hb_);have HYd:=kb_ HY hb_;clear hwd hb_ hS0;refine tk1 0 29 (.pointer (some ⟨w4.heap.size,1,none⟩)) rfl (fun w' hS=>by go_simp) ⟨HSTd.out.2.2.2.1,HYd.out⟩ ?_;try simp only [Act.put,sA_,sB_,sC_]
   refine tk1 1 30 (.map (some w2.heap.size)) rfl (fun w' hS=>by (have u:=hS.1.1 1 _ rfl;go_simp)) ⟨HSTd.out.2.2.2.1,HYd.out⟩ ?_;try simp only [Act.put,sA_,sB_,sC_]
   refine tk1 2 31 (.pointer (some ⟨wr.heap.size,0,none⟩)) rfl (fun w' hS=>by go_simp) ⟨HSTd.out.2.2.2.1,HYd.out⟩ ?_;try simp only [Act.put,sA_,sB_,sC_]
   refine tk1 3 32 (.int .i64 y.idx) rfl (fun w' hS=>by (have u:=hS.2.1 0 _ rfl;go_simp)) ⟨HSTd.out.2.2.2.1,HYd.out⟩ ?_;try simp only [Act.put,sA_,sB_,sC_]
   refine tk1 4 33 (.pointer (some ⟨w4.heap.size,2,none⟩)) rfl (fun w' hS=>by go_simp) ⟨HSTd.out.2.2.2.1,HYd.out⟩ ?_;try simp only [Act.put,sA_,sB_,sC_]
   refine tk1 5 34 (.map (some w3.heap.size)) rfl (fun w' hS=>by (have u:=hS.1.1 2 _ rfl;go_simp)) ⟨HSTd.out.2.2.2.1,HYd.out⟩ ?_;try simp only [Act.put,sA_,sB_,sC_]
   refine tk1 6 35 (.pointer (some ⟨wr.heap.size,0,none⟩)) rfl (fun w' hS=>by go_simp) ⟨HSTd.out.2.2.2.1,HYd.out⟩ ?_;try simp only [Act.put,sA_,sB_,sC_]
   refine tk1 7 36 (.int .i64 y.idx) rfl (fun w' hS=>by (have u:=hS.2.1 0 _ rfl;go_simp)) ⟨HSTd.out.2.2.2.1,HYd.out⟩ ?_;try simp only [Act.put,sA_,sB_,sC_]
   refine tk1 8 37 (.int .i64 k) rfl (fun w' hS=>by go_simp) ⟨HSTd.out.2.2.2.1,HYd.out⟩ ?_;try simp only [Act.put,sA_,sB_,sC_]
   refine tk1 9 38 (.string (s ++ ⟨#[47]⟩ ++ y.orig)) rfl (fun w' hS=>by go_simp) ⟨HSTd.out.2.2.2.1,HYd.out⟩ ?_;try simp only [Act.put,sA_,sB_,sC_]
   have HNE:=Lh_ (show (w2.heap.size≠w.heap.size∧w2.heap.size≠w1.heap.size∧w2.heap.size≠w4.heap.size∧w2.heap.size≠wr.heap.size∧w2.heap.size≠w3.heap.size)∧(w3.heap.size≠w.heap.size∧w3.heap.size≠w1.heap.size∧w3.heap.size≠w4.heap.size∧w3.heap.size≠wr.heap.size) by have:=HST.out.2.2.2.1.2.2;have:=HGw1.out;have:=HGw2.out;have:=HG3.out;have:=HG4.out;omega);refine rd1 10 (o:=⟨none,.mapUpdate _ _ _ _,_,_,_,_⟩) rfl (fun K hK=>?_);refine step_put rfl _ _ _ rfl HSTd.out.2.2.2.2.1 Tryz.underlying110 Tryz.underlying3 Tryz.underlying3 y.idx (k:Int) HOK3.out.1 (by show okI (k:Int);unfold okI;have:=HL.out;omega) (by have:=HL.out;unfold maxLen;omega) (by simp [Act.eval,Act.put]) (by simp [Act.eval,Act.put]) (by simp [Act.eval,Act.put];try rfl) ?_;intro v2 hm_ hg_;have HP2:=Lh_ hm_;have HO2:=Lh_ (HSTd.out.2.2.2.2.2.kept hg_ (fun e=>HNE.out.1.2.2.2.2 (Option.some.inj e).symm));have HB2:=Lh_ (HSTd.out.1.grown hg_ HSTd.out.1.size (fun q hq=>by have:=Option.some.inj hq;have:=HGw1.out;have:=HGw2.out;omega));have HA2:=Lh_ (HSTd.out.2.1.kept hg_ (fun e=>HNE.out.1.1 (Option.some.inj e).symm));have HR2:=Lh_ (HSTd.out.2.2.1.kept hg_ (fun e=>HNE.out.1.2.1 (Option.some.inj e).symm));have HV2:=Lh_ (HSTd.out.2.2.2.1.kept hg_ (fun e=>HNE.out.1.2.2.1 (Option.some.inj e).symm));have HY2:=Lh_ (HYd.out.kept hg_ (fun e=>HNE.out.1.2.2.2.1 (Option.some.inj e).symm));clear hm_ hg_;refine hK.out _ _ ⟨HV2.out,HY2.out⟩ (fun _=>?_);clear hK K;try simp only [Act.put,sA_,sB_,sC_]
   refine rd1 11 (o:=⟨none,.mapUpdate _ _ _ _,_,_,_,_⟩) rfl (fun K hK=>?_);refine step_put rfl _ _ _ rfl HO2.out Tryz.underlying75 Tryz.underlying3 Tryz.underlying9 y.idx (s ++ ⟨#[47]⟩ ++ y.orig) HOK3.out.1 (by show (s ++ ⟨#[47]⟩ ++ y.orig).size≤maxLen;rw [ByteArray.size_append,ByteArray.size_append];have:=HS2.out;have:=HVK.out;have h5:(⟨#[47]⟩:ByteArray).size=1:=rfl;unfold maxLen;omega) (by have:=HL.out;unfold maxLen;omega) (by simp [Act.eval,Act.put]) (by simp [Act.eval,Act.put]) (by simp [Act.eval,Act.put];try rfl) ?_;intro v3 hm_ hg_;have HO3:=Lh_ hm_;have HP3:=Lh_ (HP2.out.kept hg_ (fun e=>HNE.out.1.2.2.2.2 (Option.some.inj e)));have HB3x:=Lh_ (HB2.out.grown hg_ HB2.out.size (fun q hq=>by have:=Option.some.inj hq;have:=HGw1.out;have:=HGw2.out;have:=HG3.out;omega));have HA3:=Lh_ (HA2.out.kept hg_ (fun e=>HNE.out.2.1 (Option.some.inj e).symm));have HR3:=Lh_ (HR2.out.kept hg_ (fun e=>HNE.out.2.2.1 (Option.some.inj e).symm));have HV3:=Lh_ (HV2.out.kept hg_ (fun e=>HNE.out.2.2.2.1 (Option.some.inj e).symm));have HY3:=Lh_ (HY2.out.kept hg_ (fun e=>HNE.out.2.2.2.2 (Option.some.inj e).symm));clear hm_ hg_;refine hK.out _ _ ⟨HV3.out,HY3.out⟩ (fun _=>?_);clear hK K;try simp only [Act.put,sA_,sB_,sC_]
   refine wpAnyH_done (by kernel_rfl) ?_ _;have hf1:=plM_step hlt HXK.out;have hf2:=orgM_step HXK.out;rw [HS.out] at hf2;have HSTn:=Lh_ (show LkSt Tryz.prog 3 9 w w.heap.size w1.heap.size w4.heap.size w2.heap.size w3.heap.size (some ⟨b3,o3,none⟩) c L (k+1) v3 from ⟨HB3x.out,HA3.out,HR3.out,HV3.out,by rw [hf1];exact HP3.out,by rw [hf2];exact HO3.out⟩);clear hf1 hf2;go_wp2;go_roundw
   case rel=>exact ⟨k+1,by omega,by go_num,HSTn⟩
   case measure=>simp [intOf];omega
  ·
   have i1:¬ (k:Int)<(L.length:Int):=by omega
   obtain rfl:k=L.length:=by omega
   have hp:=HST.out.2.2.2.2.1;have ho:=HST.out.2.2.2.2.2;rw [List.take_length] at hp ho;have HPM:=Lh_ hp;have HOM:=Lh_ ho;clear hp ho;have z0:=HST.out.2.2.2.1.1 0 _ rfl;have z1:=HST.out.2.2.2.1.1 1 _ rfl;have z2:=HST.out.2.2.2.1.1 2 _ rfl;have r0:=HST.out.2.2.1.1 0 _ rfl;have r1:=HST.out.2.2.1.1 1 _ rfl;have r2:=HST.out.2.2.1.1 2 _ rfl;have rf:=HST.out.2.2.1.2.1;go_wp2;refine bodyPost_ret (v:=.agg #[.slice A L.length c,.map (some w2.heap.size),.map (some w3.heap.size)]) (by simp [results,Tryz.results91,go_sem,r0,r1,r2,rf]) rfl ⟨((HST.out.1.setCell (by show w.heap.size≤w1.heap.size;have:=HGw1.out;omega) _).setCell (by show w.heap.size≤w1.heap.size;have:=HGw1.out;omega) _).setCell (by show w.heap.size≤w1.heap.size;have:=HGw1.out;omega) _,w2.heap.size,w3.heap.size,rfl,?_,?_,by have:=HGw1.out;have:=HGw2.out;omega,by have:=HGw1.out;have:=HGw2.out;have:=HG3.out;omega⟩
   · exact ((HPM.out.kept (grown_one _ w1.heap.size 0 _) (fun e=>by have:=Option.some.inj e;have:=HGw2.out;omega)).kept (grown_one _ w1.heap.size 1 _) (fun e=>by have:=Option.some.inj e;have:=HGw2.out;omega)).kept (grown_one _ w1.heap.size 2 _) (fun e=>by have:=Option.some.inj e;have:=HGw2.out;omega)
   · exact ((HOM.out.kept (grown_one _ w1.heap.size 0 _) (fun e=>by have:=Option.some.inj e;have:=HGw2.out;have:=HG3.out;omega)).kept (grown_one _ w1.heap.size 1 _) (fun e=>by have:=Option.some.inj e;have:=HGw2.out;have:=HG3.out;omega)).kept (grown_one _ w1.heap.size 2 _) (fun e=>by have:=Option.some.inj e;have:=HGw2.out;have:=HG3.out;omega)
theorem field_view (a b c:Value) (w:World):(Instr.field 112 (.agg #[a,b,c]) 2).run Tryz.prog w=.ok c w:=by
 simp [Instr.field,run_underlying Tryz.underlying112,asAgg,part,sizeOf,typeInfo]
set_option maxRecDepth 100000 in
theorem Origin_any (A:Option Addr) (c:Nat) (L:List Dev) (n:Int) (w:World) (B:Nat) (hB:B≤w.heap.size) (hx:Sl w B A c L) (hv:∀ d ∈ L,d.orig.size≤32) (hl:L.length≤256) (hn:okI n):Calls Tryz.prog 45 #[.agg #[.slice A L.length c],.int .i64 n] w fun e w'=>e=.returned (.tuple #[.string (strF L n),.bool ((idxs L).contains n)])∧Below w.heap.size w w':=by
 have HX:=Lh_ hx;have HB:=Lh_ hB;have HV:=Lh_ hv;have HL:=Lh_ hl;have HN:=Lh_ hn;clear hx hB hv hl hn;go_enter Tryz.func45,Tryz.ntmps45;go_upto_region 1 with fail
 obtain ⟨w1,hw1,hbw1,HGw1,HXtw1⟩:=bx_ w [.slice A L.length c] 28;try simp only [hw1]
 have HBw1:=Lh_ hbw1;clear hw1 hbw1;try rw [← HGw1.out]
 have ct0:=HXtw1.out.1 0 _ rfl;go_wp2_with fail;refine (look_any A c L _ B (Nat.le_trans HB.out HBw1.out.size) (HX.out.keep (HBw1.out.mono HB.out)) HV.out HL.out).mono ?_;rintro e w2 ⟨hbw2,bp,bo,rfl,-,hmo,-⟩;clear ct0;have HBw2:=tb_ HBw1 hbw2;have tw2:=kb_ HXtw1 hbw2;clear hbw2;have hlk:=look_str_ok hmo HN.out;rw [orgM_str,orgM_some] at hlk;clear hmo;have hfv:=field_view (.slice A L.length c) (.map (some bp)) (.map (some bo)) w2;obtain ⟨s,hs⟩:∃ s,strF L n=s:=⟨_,rfl⟩;obtain ⟨q,hq⟩:∃ q,(idxs L).contains n=q:=⟨_,rfl⟩;rw [hs,hq] at hlk;have HS:=Lh_ hs;have HQ:=Lh_ hq;clear hs hq;go_wp2;go_ret2;exact ⟨by rw [HS.out,HQ.out];rfl,HBw2.out⟩
end Go.Proofs.YtjgllhlilbchpaaGreatDoor
namespace Go.Cold
open Go Go.RowKit
theorem plGo_out:∀ (l:List Dev) (i:Nat) (f:Int→Option Int) (n:Int),n ∉ idxs l→plGo l i f n=f n
 | [],_,_,_,_=>rfl
 | d :: r,i,f,n,h=>by
  have h1:n≠d.idx:=fun e=>h (by rw [e];exact List.mem_cons_self)
  have h2:n ∉ idxs r:=fun e=>h (List.mem_cons_of_mem _ e)
  rw [plGo,plGo_out r _ _ n h2];unfold updF;rw [if_neg h1]
theorem plGo_in:∀ (l:List Dev) (i:Nat) (f:Int→Option Int) (n:Int),n ∈ idxs l→∃ (k:Nat) (h:k<l.length),l[k].idx=n∧plGo l i f n=some ((i+k:Nat):Int)
 | d :: r,i,f,n,h=>by
  by_cases h2:n ∈ idxs r
  ·
   obtain ⟨k,hk,h3,h4⟩:=plGo_in r (i+1) (updF f d.idx (i:Int)) n h2
   refine ⟨k+1,by simp;omega,by simpa using h3,?_⟩;rw [plGo,h4];congr 2;omega
  ·
   have h1:n=d.idx:=by
    rcases List.mem_cons.1 h with h | h
    · exact h
    · exact absurd h h2
   refine ⟨0,by simp,h1.symm,?_⟩;rw [plGo,plGo_out r _ _ n h2];unfold updF;rw [if_pos h1];simp
theorem find_plM {L:List Dev} (h:(idxs L).Nodup) (n:Int):(plM L n=none∧findD L n=none)∨∃ (k:Nat) (hk:k<L.length),plM L n=some (k:Int)∧findD L n=some (L[k]'hk):=by
 by_cases hn:n ∈ idxs L
 ·
  right
  obtain ⟨k,hk,h3,h4⟩:=plGo_in L 0 (fun _=>none) n hn;refine ⟨k,hk,by unfold plM;rw [h4];simp,?_⟩;rw [← h3];exact find_of h (List.getElem_mem hk)
 · exact .inl ⟨plGo_out L 0 _ n hn,find_none.2 hn⟩
end Go.Cold
namespace Go.Proofs.YtjgllhlilbchpaaGreatDoor
open Go.RowKit Go.Cold
set_option maxRecDepth 100000 in
set_option maxHeartbeats 4000000 in
theorem vfind_any (A:Option Addr) (c:Nat) (L:List Dev) (bp bo N:Nat) (n:Int) (w:World) (B:Nat) (hB:B≤w.heap.size) (hx:Sl w B A c L) (hm:MapV Tryz.prog 3 3 w bp N (plM L)) (hu:(idxs L).Nodup) (hn:okI n):Calls Tryz.prog 134 #[.agg #[.slice A L.length c,.map (some bp),.map (some bo)],.int .i64 n] w (FindPost L n B w):=by
 have hzv:=(zero_of_info (P:=Tryz.prog) (t:=32) info_dev2).1;have HX:=Lh_ hx;have HB:=Lh_ hB;have HN:=Lh_ hn;have HM:=Lh_ hm;have HU:=Lh_ hu;have hx1:=hx.1;have hx2:=hx.2.1;unfold maxLen at hx2;clear hx hB hn hm hu;go_enter Tryz.func134,Tryz.ntmps134;go_upto_region 1 with fail
 obtain ⟨w1,hw1,hbw1,HGw1,HXvw1⟩:=bx_ w [.slice A L.length c,.map (some bp),.map (some bo)] 112;try simp only [hw1]
 have HBw1:=Lh_ hbw1;clear hw1 hbw1;try rw [← HGw1.out]
 obtain ⟨w2,hw2,hbw2,HGw2,HXrw2⟩:=bx_ w1 [.int .i64 0,.int .i64 0,.string ByteArray.empty,.string ByteArray.empty,.string ByteArray.empty,.string ByteArray.empty,.string ByteArray.empty,.int .i64 0,.int .i64 0,.slice none 0 0] 32;try simp only [hw2]
 have HBw2:=tb_ HBw1 hbw2;have vw2:=kb_ HXvw1 hbw2;clear hw2 hbw2;try rw [← HGw2.out]
 have cv0:=vw2.out.1 0 _ rfl;have cv1:=vw2.out.1 1 _ rfl;obtain ⟨cr0,cr1,cr2,cr3,cr4,cr5,cr6,cr7,cr8,cr9⟩:=s10_ HXrw2.out.1;have cfr:=HXrw2.out.2.1;have hlk:=look_int_ok (HM.out.below HBw2.out HM.out.lt) HN.out;rcases find_plM HU.out n with ⟨h1,h2⟩ | ⟨k,hk,h1,h2⟩
 ·
  rw [h1] at hlk;have HF:=Lh_ h2;clear h1 h2;go_wp2;refine bodyPost_ret (v:=.tuple #[.agg #[.int .i64 0,.int .i64 0,.string ByteArray.empty,.string ByteArray.empty,.string ByteArray.empty,.string ByteArray.empty,.string ByteArray.empty,.int .i64 0,.int .i64 0,.slice none 0 0],.bool false]) (by simp [results,Tryz.results134,go_sem,cr0,cr1,cr2,cr3,cr4,cr5,cr6,cr7,cr8,cr9,cfr]) rfl ⟨below10 HBw2.out (by have:=HGw1.out;omega) _ _ _ _ _ _ _ _ _ _,zeroD,none,0,by rw [HF.out];rfl,by rw [HF.out];rfl,zero_ok,Sl.nil_⟩
 ·
  rw [h1] at hlk;have HF:=Lh_ h2;clear h1 h2;have i1:(k:Int)<(L.length:Int):=by omega
  have i2:(0:Int)≤(k:Int):=by omega
  obtain ⟨b3,o3,rfl,hb3,A3,c3,hok3,hat3,hdc⟩:=(HX.out.keep (HBw2.out.mono HB.out)).dev hk;obtain ⟨y,hy⟩:∃ y,L[k]'hk=y:=⟨_,rfl⟩;rw [hy] at hok3 hat3 hdc;have HFD:=Lh_ (show findD L n=some y by rw [HF.out,hy]);have HOK:=Lh_ hok3;have HAT:=Lh_ hat3;obtain ⟨d0,d1,d2,d3,d4,d5,d6,d7,d8,d9⟩:=hdc;clear hok3 hat3 hy HF hb3;simp only [Option.getD_some,Option.isSome_some] at hlk;go_wp2;refine bodyPost_ret (v:=.tuple #[.agg #[.int .i64 y.idx,.int .i64 y.par,.string y.nm,.string y.orig,.string y.sub,.string y.drv,.string y.ali,.int .i64 y.kind,.int .i64 y.num,.slice A3 y.attrs.length c3],.bool true]) (by simp [results,Tryz.results134,go_sem,cr0,cr1,cr2,cr3,cr4,cr5,cr6,cr7,cr8,cr9,cfr]) rfl ⟨below10 HBw2.out (by have:=HGw1.out;omega) _ _ _ _ _ _ _ _ _ _,y,A3,c3,by rw [HFD.out];rfl,by rw [HFD.out];rfl,HOK.out,HAT.out.keep (below10 (Below.refl B w2) (by have:=HGw1.out;have:=HB.out;omega) _ _ _ _ _ _ _ _ _ _)⟩
end Go.Proofs.YtjgllhlilbchpaaGreatDoor
namespace Go.Cold
open Go Go.RowKit
end Go.Cold
namespace Go.Proofs.YtjgllhlilbchpaaGreatDoor
open Go.RowKit Go.Cold
end Go.Proofs.YtjgllhlilbchpaaGreatDoor
namespace Go.Cold
open Go Go.RowKit
end Go.Cold
namespace Go.Proofs.YtjgllhlilbchpaaGreatDoor
open Go.RowKit Go.Cold
end Go.Proofs.YtjgllhlilbchpaaGreatDoor
