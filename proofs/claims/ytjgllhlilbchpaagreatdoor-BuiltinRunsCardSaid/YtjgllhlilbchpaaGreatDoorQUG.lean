/-
  The walks of builtin.finders,builtin.Run and the reference's Run.
-/
import Derived.Test.YtjgllhlilbchpaaGreatDoorQTK
import Derived.Test.YtjgllhlilbchpaaGreatDoorQUF
import Derived.Test.YtjgllhlilbchpaaGreatDoorQL
import Derived.Test.YtjgllhlilbchpaaGreatDoorQC
import Derived.Test.YtjgllhlilbchpaaGreatDoorQW
import Derived.Test.YtjgllhlilbchpaaGreatDoorQSC
import Derived.Test.YtjgllhlilbchpaaGreatDoorQUC
import Derived.Lib.LaidU8T
import Derived.PinnedBridge
set_option linter.unusedSimpArgs false
set_option linter.unusedVariables false
namespace Go.Cold
open Go Go.RowKit Go.Proofs.YtjgllhlilbchpaaGreatDoor
theorem beq_ba (a b:ByteArray):(a == b)=decide (a=b):=by
 rw [Bool.eq_iff_iff,decide_eq_true_iff];cases a with | mk a=>cases b with | mk b =>
 show (a == b)=true↔_
 simp
def nmPath:ByteArray:=⟨#[112,97,116,104]⟩
def nmNet:ByteArray:=⟨#[110,101,116]⟩
noncomputable def runL (s:ByteArray) (L:List Dev) (n:Int):List Attr:=if s=nmPath then pathL L n else if s=nmContent then contL L n else if s=nmNet then netL L n else []
section
variable {P:Program} {w:World} {kt et t:TypeId} {b clock:Nat} {es:Array MapEntry}
theorem wpList_litS {ops:Array Oper} {rest:List Oper} {o:Oper} {a:Act} {Q:Exit→Act→World→Prop}
  (hg:o.guard=none) (m x v:Operand) (t:TypeId) (hop:o.op=Op.insert t m x v) (hb:w.heap[b]? = some (.map es clock)) (ht:P.underlying t=some (.map kt et)) (hk:P.underlying kt=some .string)
  (hm:a.eval m=.map (some b)) (s:ByteArray) (y:Value) (hx:a.eval x=.string s) (hv:a.eval v=y) (hf:Instr.findNow .string (.string s) es.toList 0=some none)
  (hK:∀ w',w'.heap[b]? = some (.map (es.push { key:=.string s,val:=y,born:=clock }) (clock+1))→w.grownBy w' (some b)→wpList P ops Q rest (a.put o.dst undef) w'):wpList P ops Q (o :: rest) a w:=by
 refine wpList_plain hg fun K' hK'=>?_
 have hc:(Instr.checkKey false 10000 kt (.string s)).run P w=.ok () w:=MapKept.run_checkKey (k:=.string s) hk (by simp [MapKept.IsKey]) false 9999;have hrun:(Instr.mapUpdate t (.map (some b)) (.string s) y).run P w=.ok () (w.putObj b (.map (es.push { key:=.string s,val:=y,born:=clock }) (clock+1))):=by
  simp [Instr.mapUpdate,run_underlying ht,MapKept.run_getObj_map hb,hc,MapKept.run_findKey hk hf,MapKept.run_setObj_map _ hb,Result.andThen,World.putObj]
 have hlt:b<w.heap.size:=(Array.getElem?_eq_some_iff.1 hb).1;unfold Oper.wp;simp [execOp,hop,hm,hx,hv,hrun,Result.andThen]
 refine hK' _ _ (hK _ ?_ (grownBy_putObj' w b _));show (w.heap.setIfInBounds b _)[b]? = _
 rw [Array.getElem?_setIfInBounds_self_of_lt hlt]
theorem run_lookS {z:Value} (hb:w.heap[b]? = some (.map es clock)) (ht:P.underlying t=some (.map kt et)) (hk:P.underlying kt=some .string) (hz:(zeroValue et).run P w=.ok z w) (s:ByteArray) {r:Option (Nat × Value)} (hf:Instr.findNow .string (.string s) es.toList 0=some r) :
  (Instr.lookup t (.map (some b)) (.string s) true).run P w=.ok (.tuple #[(r.map (·.2)).getD z,.bool r.isSome]) w:=by
 have hc:(Instr.checkKey es.isEmpty 10000 kt (.string s)).run P w=.ok () w:=MapKept.run_checkKey (k:=.string s) hk (by simp [MapKept.IsKey]) _ 9999;cases r with
 | none=>simp [Instr.lookup,run_underlying ht,MapKept.run_getObj_map hb,hc,MapKept.run_findKey hk hf,hz,Result.andThen]
 | some y=>obtain ⟨i,v⟩:=y;simp [Instr.lookup,run_underlying ht,MapKept.run_getObj_map hb,hc,MapKept.run_findKey hk hf,Result.andThen]
end
end Go.Cold
namespace Go.Proofs.YtjgllhlilbchpaaGreatDoor
open Go.RowKit Go.Cold
theorem info_fn:(Tryz.prog.info? 83).map (fun i=>(i.zero,i.size))=some (some .nilFunc,1):=by kernel_rfl
theorem zero_fn (w:World):(zeroValue 83).run Tryz.prog w=.ok .nilFunc w:=(zero_of_info info_fn).1 w
def finE:Array MapEntry:=#[{ key:=.string nmPath,val:=.func (.func 12) #[] #[],born:=0 },{ key:=.string nmContent,val:=.func (.func 21) #[] #[],born:=1 },{ key:=.string nmNet,val:=.func (.func 22) #[] #[],born:=2 }]
theorem fin_find (s:ByteArray):Instr.findNow .string (.string s) finE.toList 0=some (if s=nmPath then some (0,.func (.func 12) #[] #[]) else if s=nmContent then some (1,.func (.func 21) #[] #[]) else if s=nmNet then some (2,.func (.func 22) #[] #[]) else none):=by
 unfold finE;simp only [Instr.findNow,Instr.sameNow,beq_ba];by_cases h1:s=nmPath
 · rw [if_pos h1];simp only [decide_eq_true h1]
 ·
  by_cases h2:s=nmContent
  · rw [if_neg h1,if_pos h2];simp only [decide_eq_false h1,decide_eq_true h2]
  ·
   by_cases h3:s=nmNet
   · rw [if_neg h1,if_neg h2,if_pos h3];simp only [decide_eq_false h1,decide_eq_false h2,decide_eq_true h3]
   · rw [if_neg h1,if_neg h2,if_neg h3];simp only [decide_eq_false h1,decide_eq_false h2,decide_eq_false h3]
set_option maxRecDepth 100000 in
theorem finders_any (w:World):Calls Tryz.prog 60 #[] w fun e w'=>∃ b,e=.returned (.map (some b))∧w'.heap[b]? = some (.map finE 3)∧Below w.heap.size w w':=by
 have hmk:=fun z=>run_makeMap (P:=Tryz.prog) 85 z
 go_enter Tryz.func60,Tryz.ntmps60;obtain ⟨w1,hw1⟩:∃ z,w.alloc (.map #[] 0)=z:=⟨_,rfl⟩;have hm0:w1.heap[w.heap.size]? = some (.map #[] 0):=by rw [← hw1];exact heap_alloc_new _ _
 have hb1:Below w.heap.size w w1:=by rw [← hw1];exact (Below.refl _ _).alloc (Nat.le_refl _) _
 have HM:=Lh_ hm0;have HG:=Lh_ hb1;clear hm0 hb1;go_wp2_with (refine wpList_litS rfl _ _ _ _ rfl HM.out Tryz.underlying85 Tryz.underlying9 rfl _ _ rfl rfl (by kernel_rfl) ?_;intro wn_ hm_ hg_;have HG:=Lh_ (HG.out.grown hg_ HG.out.size (fun q hq=>by have:=Option.some.inj hq;omega));have HM:=Lh_ hm_;clear hm_ hg_);go_ret;exact ⟨_,rfl,HM.out,HG.out⟩
set_option maxRecDepth 100000 in
set_option maxHeartbeats 4000000 in
theorem Run_any (s:ByteArray) (A:Option Addr) (c:Nat) (L:List Dev) (n:Int) (w:World) (B:Nat) (hB:B≤w.heap.size) (hx:Sl w B A c L) (hv:VT L) (hok:Ok7 w) (hko:Ok w) (hn:okI n) (hu:OkU w) :
  Calls Tryz.prog 26 #[.string s,.agg #[.slice A L.length c],.int .i64 n] w (SlPost (runL s L n) w):=by
 have hx1:=hx.1;have hx2:=hx.2.1;unfold maxLen at hx2;have HX:=Lh_ hx;have HB:=Lh_ hB;have HV:=Lh_ hv;have HOK:=Lh_ hok;have HKO:=Lh_ hko;have HN:=Lh_ hn;clear hx hB hv hok hko hn;have HU:=Lh_ hu;clear hu;have hen1:=enters_of Tryz.func12 (by kernel_rfl) rfl;have hen2:=enters_of Tryz.func21 (by kernel_rfl) rfl;have hen3:=enters_of Tryz.func22 (by kernel_rfl) rfl;go_enter Tryz.func26,Tryz.ntmps26;go_upto_region 1 with fail
 obtain ⟨w1,hw1,hbw1,HGw1,HXtw1⟩:=bx_ w [.slice A L.length c] 28;try simp only [hw1]
 have HBw1:=Lh_ hbw1;clear hw1 hbw1;try rw [← HGw1.out]
 have ct0:=HXtw1.out.1 0 _ rfl;go_wp2_with fail;refine (finders_any _).mono ?_;rintro e w2 ⟨bm,rfl,hmap,hbw2⟩;clear ct0;have HBw2:=tb_ HBw1 hbw2;have tw2:=kb_ HXtw1 hbw2;clear hbw2;have ct0:=tw2.out.1 0 _ rfl;have hlk:=run_lookS (P:=Tryz.prog) (t:=85) hmap Tryz.underlying85 Tryz.underlying9 (zero_fn _) s (fin_find s);clear hmap;by_cases k0:s=nmPath
 ·
  rw [if_pos k0] at hlk;simp only [Option.map_some,Option.getD_some,Option.isSome_some] at hlk;have HE:=Lh_ (show runL s L n=pathL L n by unfold runL;rw [if_pos k0]);clear k0;go_wp2_with fail;refine (BPath_any A c L n _ B (Nat.le_trans HB.out HBw2.out.size) (HX.out.keep (HBw2.out.mono HB.out)) HV.out (HOK.out.below HBw2.out) HN.out (HU.out.below HBw2.out)).mono ?_;rintro e wq ⟨hb_,A7,c7,rfl,hs_⟩;obtain ⟨ll,hll⟩:∃ z,pathL L n=z:=⟨_,rfl⟩;rw [hll] at hs_ HE ⊢;have HS:=Lh_ hs_;have HBq:=tb_ HBw2 hb_;clear hs_ hb_ hll;go_wp2;go_ret;exact ⟨HBq.out,A7,c7,by rw [HE.out];rfl,by rw [HE.out];exact HS.out⟩
 ·
  by_cases k1:s=nmContent
  ·
   rw [if_neg k0,if_pos k1] at hlk;simp only [Option.map_some,Option.getD_some,Option.isSome_some] at hlk;have HE:=Lh_ (show runL s L n=Go.Cold.contL L n by unfold runL;rw [if_neg k0];rw [if_pos k1]);clear k1;go_wp2_with fail;refine (Content_any A c L n _ B (Nat.le_trans HB.out HBw2.out.size) (HX.out.keep (HBw2.out.mono HB.out)) HV.out (HOK.out.below HBw2.out) (HKO.out.next HBw2.out) HN.out).mono ?_;rintro e wq ⟨hb_,A7,c7,rfl,hs_⟩;obtain ⟨ll,hll⟩:∃ z,Go.Cold.contL L n=z:=⟨_,rfl⟩;rw [hll] at hs_ HE ⊢;have HS:=Lh_ hs_;have HBq:=tb_ HBw2 hb_;clear hs_ hb_ hll;go_wp2;go_ret;exact ⟨HBq.out,A7,c7,by rw [HE.out];rfl,by rw [HE.out];exact HS.out⟩
  ·
   by_cases k2:s=nmNet
   ·
    rw [if_neg k0,if_neg k1,if_pos k2] at hlk;simp only [Option.map_some,Option.getD_some,Option.isSome_some] at hlk;have HE:=Lh_ (show runL s L n=netL L n by unfold runL;rw [if_neg k0];rw [if_neg k1];rw [if_pos k2]);clear k2;go_wp2_with fail;refine (Net_any A c L n _ B (Nat.le_trans HB.out HBw2.out.size) (HX.out.keep (HBw2.out.mono HB.out)) HV.out (HOK.out.below HBw2.out) (HKO.out.next HBw2.out)).mono ?_;rintro e wq ⟨hb_,A7,c7,rfl,hs_⟩;obtain ⟨ll,hll⟩:∃ z,netL L n=z:=⟨_,rfl⟩;rw [hll] at hs_ HE ⊢;have HS:=Lh_ hs_;have HBq:=tb_ HBw2 hb_;clear hs_ hb_ hll;go_wp2;go_ret;exact ⟨HBq.out,A7,c7,by rw [HE.out];rfl,by rw [HE.out];exact HS.out⟩
   ·
    rw [if_neg k0,if_neg k1,if_neg k2] at hlk;simp only [Option.map_none,Option.getD_none,Option.isSome_none] at hlk;have HE:=Lh_ (show runL s L n=[] by unfold runL;rw [if_neg k0,if_neg k1,if_neg k2]);clear k0 k1 k2;go_wp2;go_ret;exact ⟨HBw2.out,none,0,by rw [HE.out];rfl,by rw [HE.out];exact Sl.nil_⟩
set_option maxRecDepth 100000 in
set_option maxHeartbeats 4000000 in
theorem RRun_any (s:ByteArray) (A:Option Addr) (c:Nat) (L:List Dev) (n:Int) (w:World) (B:Nat) (hB:B≤w.heap.size) (hx:Sl w B A c L) (hv:VT L) (hok:Ok7 w) (hko:Ok w) (hk8:Ok8 w) (hn:okI n) :
  Calls Tryz.prog 27 #[.string s,.agg #[.slice A L.length c],.int .i64 n] w (SlPost (runL s L n) w):=by
 have hx1:=hx.1;have hx2:=hx.2.1;unfold maxLen at hx2;have HX:=Lh_ hx;have HB:=Lh_ hB;have HV:=Lh_ hv;have HOK:=Lh_ hok;have HKO:=Lh_ hko;have HN:=Lh_ hn;clear hx hB hv hok hko hn;have HK8:=Lh_ hk8;clear hk8;go_enter Tryz.func27,Tryz.ntmps27;go_upto_region 1 with fail
 obtain ⟨w1,hw1,hbw1,HGw1,HXtw1⟩:=bx_ w [.slice A L.length c] 28;try simp only [hw1]
 have HBw1:=Lh_ hbw1;clear hw1 hbw1;try rw [← HGw1.out]
 have ct0:=HXtw1.out.1 0 _ rfl;have e0:(s.toList == [112,97,116,104])=decide (s=nmPath):=str_eq (by decide +kernel);by_cases k0:s=nmPath
 ·
  rw [decide_eq_true k0] at e0;have f0:(s.toList == (⟨#[112,97,116,104]⟩:ByteArray).toList)=true:=by rw [show (⟨#[112,97,116,104]⟩:ByteArray).toList=[112,97,116,104] by decide +kernel];exact e0
  have HE:=Lh_ (show runL s L n=pathL L n by unfold runL;rw [if_pos k0]);clear k0;go_wp2_with fail;refine (RBPath_any A c L n _ B (Nat.le_trans HB.out HBw1.out.size) (HX.out.keep (HBw1.out.mono HB.out)) HV.out (HOK.out.below HBw1.out) HN.out).mono ?_;rintro e wq ⟨hb_,A7,c7,rfl,hs_⟩;obtain ⟨ll,hll⟩:∃ z,pathL L n=z:=⟨_,rfl⟩;rw [hll] at hs_ HE ⊢;have HS:=Lh_ hs_;have HBq:=tb_ HBw1 hb_;clear hs_ hb_ hll;go_wp2;go_ret;exact ⟨HBq.out,A7,c7,by rw [HE.out];rfl,by rw [HE.out];exact HS.out⟩
 ·
  rw [decide_eq_false k0] at e0;have f0:(s.toList == (⟨#[112,97,116,104]⟩:ByteArray).toList)=false:=by rw [show (⟨#[112,97,116,104]⟩:ByteArray).toList=[112,97,116,104] by decide +kernel];exact e0
  have e1:(s.toList == [99,111,110,116,101,110,116])=decide (s=nmContent):=str_eq (by decide +kernel);by_cases k1:s=nmContent
  ·
   rw [decide_eq_true k1] at e1;have f1:(s.toList == (⟨#[99,111,110,116,101,110,116]⟩:ByteArray).toList)=true:=by rw [show (⟨#[99,111,110,116,101,110,116]⟩:ByteArray).toList=[99,111,110,116,101,110,116] by decide +kernel];exact e1
   have HE:=Lh_ (show runL s L n=Go.Cold.contL L n by unfold runL;rw [if_neg k0];rw [if_pos k1]);clear k1;go_wp2_with fail;refine (RContent11_any A c L n _ B (Nat.le_trans HB.out HBw1.out.size) (HX.out.keep (HBw1.out.mono HB.out)) HV.out (HOK.out.below HBw1.out) (Ok8.below HK8.out HBw1.out) HN.out).mono ?_;rintro e wq ⟨hb_,A7,c7,rfl,hs_⟩;obtain ⟨ll,hll⟩:∃ z,Go.Cold.contL L n=z:=⟨_,rfl⟩;rw [hll] at hs_ HE ⊢;have HS:=Lh_ hs_;have HBq:=tb_ HBw1 hb_;clear hs_ hb_ hll;go_wp2;go_ret;exact ⟨HBq.out,A7,c7,by rw [HE.out];rfl,by rw [HE.out];exact HS.out⟩
  ·
   rw [decide_eq_false k1] at e1;have f1:(s.toList == (⟨#[99,111,110,116,101,110,116]⟩:ByteArray).toList)=false:=by rw [show (⟨#[99,111,110,116,101,110,116]⟩:ByteArray).toList=[99,111,110,116,101,110,116] by decide +kernel];exact e1
   have e2:(s.toList == [110,101,116])=decide (s=nmNet):=str_eq (by decide +kernel);by_cases k2:s=nmNet
   ·
    rw [decide_eq_true k2] at e2;have f2:(s.toList == (⟨#[110,101,116]⟩:ByteArray).toList)=true:=by rw [show (⟨#[110,101,116]⟩:ByteArray).toList=[110,101,116] by decide +kernel];exact e2
    have HE:=Lh_ (show runL s L n=netL L n by unfold runL;rw [if_neg k0];rw [if_neg k1];rw [if_pos k2]);clear k2;go_wp2_with fail;refine (RNet11_any A c L n _ B (Nat.le_trans HB.out HBw1.out.size) (HX.out.keep (HBw1.out.mono HB.out)) HV.out (HOK.out.below HBw1.out) (HKO.out.next HBw1.out)).mono ?_;rintro e wq ⟨hb_,A7,c7,rfl,hs_⟩;obtain ⟨ll,hll⟩:∃ z,netL L n=z:=⟨_,rfl⟩;rw [hll] at hs_ HE ⊢;have HS:=Lh_ hs_;have HBq:=tb_ HBw1 hb_;clear hs_ hb_ hll;go_wp2;go_ret;exact ⟨HBq.out,A7,c7,by rw [HE.out];rfl,by rw [HE.out];exact HS.out⟩
   ·
    rw [decide_eq_false k2] at e2;have f2:(s.toList == (⟨#[110,101,116]⟩:ByteArray).toList)=false:=by rw [show (⟨#[110,101,116]⟩:ByteArray).toList=[110,101,116] by decide +kernel];exact e2
    have HE:=Lh_ (show runL s L n=[] by unfold runL;rw [if_neg k0,if_neg k1,if_neg k2]);clear k0 k1 k2;go_wp2;go_ret;exact ⟨HBw1.out,none,0,by rw [HE.out];rfl,by rw [HE.out];exact Sl.nil_⟩
end Go.Proofs.YtjgllhlilbchpaaGreatDoor
namespace Go.Cold
open Go Go.RowKit Go.Proofs.YtjgllhlilbchpaaGreatDoor
theorem cell_on {w w':World} {b i:Nat} {v:Value} (hb:Below w.heap.size w w') (h:w.cell? ⟨b,i,none⟩=some v):w'.cell? ⟨b,i,none⟩=some v:=cell_nx h hb
def obsA (l:List Attr):List (List UInt8 × List UInt8):=l.map fun a=>(a.name.data.toList,a.value.data.toList)
theorem obsA_inj:∀ {l r:List Attr},obsA l=obsA r→l=r
 | [],[],_=>rfl
 | [],_ :: _,h=>by cases h
 | _ :: _,[],h=>by cases h
 | a :: l,b :: r,h=>by
  unfold obsA at h;rw [List.map_cons,List.map_cons] at h;injection h with h1 h2
  injection h1 with h3 h4
  have e:a=b:=by
   obtain ⟨a1,a2⟩:=a;obtain ⟨b1,b2⟩:=b;rw [show a1=b1 from ba_ext h3,show a2=b2 from ba_ext h4]
  rw [e,obsA_inj (show obsA l=obsA r from h2)]
def uC:Attr:=⟨⟨#[99,111,110,116,101,110,116]⟩,⟨#[102,115,58,117,49,58,114,111,111,116]⟩⟩
def u1D:Dev:=⟨1,0,⟨#[112,99,105,48]⟩,⟨#[112,99,105,48]⟩,⟨#[112,99,105]⟩,⟨#[]⟩,⟨#[]⟩,1,0,[]⟩
def u2D:Dev:=⟨2,1,⟨#[115,100,97,49]⟩,⟨#[115,100,97,49]⟩,⟨#[98,108,111,99,107]⟩,⟨#[]⟩,⟨#[]⟩,2,9,[uC]⟩
def uL:List Dev:=[u1D,u2D]
theorem uL_VT:VT uL:=(check_VT (by decide)).1 (by decide +kernel)
def uBase:List Attr:=[⟨⟨#[68,69,86,78,65,77,69]⟩,⟨#[115,100,97,49]⟩⟩,⟨⟨#[68,69,86,80,65,84,72]⟩,⟨#[47,112,99,105,48,47,115,100,97,49]⟩⟩,⟨⟨#[78,85,77,66,69,82]⟩,⟨#[57]⟩⟩,⟨⟨#[83,85,66,83,89,83,84,69,77]⟩,⟨#[98,108,111,99,107]⟩⟩]
def uPath:List Attr:=[⟨⟨#[73,68,95,80,65,84,72]⟩,⟨#[112,99,105,58,112,99,105,48,45,98,108,111,99,107,58,115,100,97,49]⟩⟩,⟨⟨#[73,68,95,80,65,84,72,95,84,65,71]⟩,⟨#[112,99,105,95,112,99,105,48,95,98,108,111,99,107,95,115,100,97,49]⟩⟩]
def uCont:List Attr:=[⟨⟨#[73,68,95,70,83,95,76,65,66,69,76]⟩,⟨#[114,111,111,116]⟩⟩,⟨⟨#[73,68,95,70,83,95,85,83,65,71,69]⟩,⟨#[102,105,108,101,115,121,115,116,101,109]⟩⟩,⟨⟨#[73,68,95,70,83,95,85,85,73,68]⟩,⟨#[117,49]⟩⟩]
theorem uL_base:baseL uL 2=uBase:=obsA_inj (by decide +kernel)
theorem uL_path:pathL uL 2=uPath:=obsA_inj (by decide +kernel)
def uT:ByteArray:=⟨#[102,115,58,117,49,58,114,111,111,116]⟩
def uTC:Cont:=.mk 1 ⟨#[117,49]⟩ ⟨#[114,111,111,116]⟩ 0 0 0 []
theorem cont_uT:contP uT 11 0=some (uTC,10):=by kernel_rfl
theorem ok_uTC:AllOk uTC:=AllOk_mk.2 ⟨by decide +kernel,fun x hx=>by cases hx⟩
theorem depth_uTC:depthC uTC≤6:=by unfold uTC;rw [depthC,depthL];decide
theorem parse_uT:parseC uT=some uTC:=by
 have h1:uT.size=10:=by decide +kernel
 unfold parseC;rw [if_neg (by omega),h1,cont_uT];simp [bad_of ok_uTC depth_uTC]
theorem uL_cont:Go.Cold.contL uL 2=uCont:=by
 have h:Go.Cold.contL uL 2=contA uTC:=contL_some (d:=u2D) rfl rfl (show parseC (contD u2D)=some uTC from by rw [show contD u2D=uT by rfl];exact parse_uT);rw [h];exact obsA_inj (by decide +kernel)
theorem uL_sl {w:World} {gx gl B:Nat} (hx:BoxL w gx [.string ⟨#[99,111,110,116,101,110,116]⟩,.string ⟨#[102,115,58,117,49,58,114,111,111,116]⟩]) (h:BoxL w gl [.int .i64 1,.int .i64 0,.string ⟨#[112,99,105,48]⟩,.string ⟨#[112,99,105,48]⟩,.string ⟨#[112,99,105]⟩,.string ⟨#[]⟩,.string ⟨#[]⟩,.int .i64 1,.int .i64 0,.slice none 0 0,.int .i64 2,.int .i64 1,.string ⟨#[115,100,97,49]⟩,.string ⟨#[115,100,97,49]⟩,.string ⟨#[98,108,111,99,107]⟩,.string ⟨#[]⟩,.string ⟨#[]⟩,.int .i64 2,.int .i64 9,.slice (some ⟨gx,0,none⟩) 1 1]) (hB1:gx<B) (hB:gl<B):Sl w B (some ⟨gl,0,none⟩) 2 uL:=by
 have hsx:SlS w (fun b=>b<B) (some ⟨gx,0,none⟩) 1 [uC]:=by
  refine ⟨by decide,by decide,fun _=>⟨gx,0,rfl,hB1,fun i x hi=>?_⟩⟩;have h0:i=0:=by have:=(List.getElem?_eq_some_iff.1 hi).1;simp at this;exact this
  subst h0;obtain rfl:=Option.some.inj hi;exact ⟨attrCells uC,⟨rfl,by decide,by decide⟩,fun j u hu=>by rw [Nat.zero_mul,Nat.zero_add,Nat.zero_add];exact hx.1 j u hu⟩
 refine ⟨by decide,by decide,fun _=>⟨gl,0,rfl,hB,fun i x hi=>?_⟩⟩;have hi2:i<2:=(List.getElem?_eq_some_iff.1 hi).1;have hcase:i=0∨i=1:=by omega
 rcases hcase with rfl | rfl
 ·
  obtain rfl:=Option.some.inj hi
  refine ⟨devCells u1D none 0,⟨none,0,rfl,?_,SlS.nil_⟩,fun j u hu=>?_⟩
  · refine ⟨?_,?_,?_,?_,?_,?_,?_,?_,?_⟩ <;> first | (unfold okI;decide +kernel) | decide +kernel
  ·
   rw [Nat.zero_mul,Nat.zero_add,Nat.zero_add]
   have hj:j<10:=by have:=(List.getElem?_eq_some_iff.1 hu).1;simpa [devCells] using this
   refine h.1 j u ?_;show (devCells u1D none 0 ++ devCells u2D (some ⟨gx,0,none⟩) 1)[j]? = some u
   rw [List.getElem?_append_left (by simpa [devCells] using hj)];exact hu
 ·
  obtain rfl:=Option.some.inj hi
  refine ⟨devCells u2D (some ⟨gx,0,none⟩) 1,⟨some ⟨gx,0,none⟩,1,rfl,?_,hsx⟩,fun j u hu=>?_⟩
  · refine ⟨?_,?_,?_,?_,?_,?_,?_,?_,?_⟩ <;> first | (unfold okI;decide +kernel) | decide +kernel
  ·
   rw [Nat.zero_add,show 1 * Rep.size Dev+j=10+j from rfl]
   refine h.1 (10+j) u ?_;show (devCells u1D none 0 ++ devCells u2D (some ⟨gx,0,none⟩) 1)[10+j]? = some u
   rw [List.getElem?_append_right (by simp [devCells]),show 10+j - (devCells u1D none 0).length=j by simp [devCells]];exact hu
end Go.Cold
namespace Go.Proofs.YtjgllhlilbchpaaGreatDoor
open Go.RowKit Go.Cold
set_option maxRecDepth 100000 in
set_option maxHeartbeats 4000000 in
theorem known_any (w:World) (hko:Ok w) (h7:Ok7 w) (hk8:Ok8 w) (hu:OkU w):Calls Tryz.prog 15 #[] w fun e w'=>e=.returned (.bool true)∧Below w.heap.size w w':=by
 have HKO:=Lh_ hko;have H7:=Lh_ h7;have HK8:=Lh_ hk8;have HU:=Lh_ hu;clear hko h7 hk8 hu;go_enter Tryz.func15,Tryz.ntmps15;go_upto_region 2 with fail
 obtain ⟨w1,hw1,hbw1,HGw1,HXxw1⟩:=bx_ w [.string ⟨#[99,111,110,116,101,110,116]⟩,.string ⟨#[102,115,58,117,49,58,114,111,111,116]⟩] 42;try simp only [hw1]
 have HSw1:=Lh_ (show w.heap.size≤w1.heap.size from hbw1.size);have HBw1:=Lh_ hbw1;clear hw1 hbw1;try rw [← HGw1.out]
 obtain ⟨w2,hw2,hbw2,HGw2,HXlw2⟩:=bx_ w1 [.int .i64 1,.int .i64 0,.string ⟨#[112,99,105,48]⟩,.string ⟨#[112,99,105,48]⟩,.string ⟨#[112,99,105]⟩,.string ⟨#[]⟩,.string ⟨#[]⟩,.int .i64 1,.int .i64 0,.slice none 0 0,.int .i64 2,.int .i64 1,.string ⟨#[115,100,97,49]⟩,.string ⟨#[115,100,97,49]⟩,.string ⟨#[98,108,111,99,107]⟩,.string ⟨#[]⟩,.string ⟨#[]⟩,.int .i64 2,.int .i64 9,.slice (some ⟨w.heap.size,0,none⟩) 1 1] 32;try simp only [hw2]
 have HSw2:=Lh_ (show w1.heap.size≤w2.heap.size from hbw2.size);have HBw2:=tb_ HBw1 hbw2;have xw2:=kb_ HXxw1 hbw2;clear hw2 hbw2;try rw [← HGw2.out]
 have HSL:=Lh_ (uL_sl xw2.out HXlw2.out xw2.out.2.2 HXlw2.out.2.2);obtain ⟨w3,hw3,hbw3,HGw3,HXtw3⟩:=bx_ w2 [.slice (some ⟨w1.heap.size,0,none⟩) 2 2] 28;try simp only [hw3]
 have HSw3:=Lh_ (show w2.heap.size≤w3.heap.size from hbw3.size);have HBw3:=tb_ HBw2 hbw3;have xw3:=kb_ xw2 hbw3;have lw3:=kb_ HXlw2 hbw3;have HSLw3:=Lh_ (HSL.out.next (Nat.le_refl _) hbw3);clear hw3 hbw3;try rw [← HGw3.out]
 have HN:=Lh_ (show okI 2 from ⟨by decide,by decide⟩);refine wp_region_held_drew (S:=fun w'=>BoxL w' (w2.heap.size) [.slice (some ⟨w1.heap.size,0,none⟩) 2 2]) (by kernel_rfl) HXtw3.out.drew (fun hS0=>?_);obtain ⟨wd,hwd⟩:∃ z,World.drew w3=z:=⟨_,rfl⟩;rw [hwd] at hS0 ⊢;have hb_:Below w3.heap.size w3 wd:=by rw [← hwd];exact below_drewN_self _ _ 1
 clear hwd hS0;have HSwd:=Lh_ (show w3.heap.size≤wd.heap.size from hb_.size);have HBwd:=tb_ HBw3 hb_;have xwd:=kb_ xw3 hb_;have lwd:=kb_ lw3 hb_;have twd:=kb_ HXtw3 hb_;have HSLwd:=Lh_ (HSLw3.out.next (Nat.le_refl _) hb_);clear hb_;refine tk1 0 11 (.agg #[.slice (some ⟨w1.heap.size,0,none⟩) 2 2]) rfl (fun w' hS=>by (have u0_:=hS.1 0 _ rfl;go_simp)) twd.out ?_;try simp only [Act.put,sA_,sB_,sC_]
 refine tk1 2 13 (.agg #[.slice (some ⟨w1.heap.size,0,none⟩) 2 2]) rfl (fun w' hS=>by (have u0_:=hS.1 0 _ rfl;go_simp)) twd.out ?_;try simp only [Act.put,sA_,sB_,sC_]
 refine tk1 4 15 (.agg #[.slice (some ⟨w1.heap.size,0,none⟩) 2 2]) rfl (fun w' hS=>by (have u0_:=hS.1 0 _ rfl;go_simp)) twd.out ?_;try simp only [Act.put,sA_,sB_,sC_]
 refine rd1 1 (o:=⟨some 12,.call ⟨_,_,_⟩,_,_,_,_⟩) rfl (fun K hK=>?_);go_simp;go_at_call 14;refine (Base_any (some ⟨w1.heap.size,0,none⟩) 2 uL 2 _ _ (Nat.le_refl _) HSLwd.out uL_VT (H7.out.below HBwd.out) (HKO.out.next HBwd.out) HN.out).mono ?_;rintro e' qB ⟨hb_,AB,cB,rfl,hs_⟩;rw [uL_base] at hs_ ⊢;have HSqB:=Lh_ (show wd.heap.size≤qB.heap.size from hb_.size);have HBqB:=tb_ HBwd hb_;have xqB:=kb_ xwd hb_;have lqB:=kb_ lwd hb_;have tqB:=kb_ twd hb_;have HSLqB:=Lh_ (HSLwd.out.next (Nat.le_refl _) hb_);have HSB:=Lh_ hs_;clear hs_ hb_;refine hK.out _ _ tqB.out (fun _=>?_);clear hK K;try simp only [Act.put,sA_,sB_,sC_]
 refine rd1 3 (o:=⟨some 14,.call ⟨_,_,_⟩,_,_,_,_⟩) rfl (fun K hK=>?_);go_simp;go_at_call 12;refine (BPath_any (some ⟨w1.heap.size,0,none⟩) 2 uL 2 _ _ (Nat.le_refl _) HSLqB.out uL_VT (H7.out.below HBqB.out) HN.out (HU.out.below HBqB.out)).mono ?_;rintro e' qP ⟨hb_,AP,cP,rfl,hs_⟩;rw [uL_path] at hs_ ⊢;have HSqP:=Lh_ (show qB.heap.size≤qP.heap.size from hb_.size);have HBqP:=tb_ HBqB hb_;have xqP:=kb_ xqB hb_;have lqP:=kb_ lqB hb_;have tqP:=kb_ tqB hb_;have HSLqP:=Lh_ (HSLqB.out.next (Nat.le_refl _) hb_);have HSBqP:=Lh_ ((HSB.out).next (Nat.le_refl _) hb_);have HSP:=Lh_ hs_;clear hs_ hb_;refine hK.out _ _ tqP.out (fun _=>?_);clear hK K;try simp only [Act.put,sA_,sB_,sC_]
 refine rd1 5 (o:=⟨some 16,.call ⟨_,_,_⟩,_,_,_,_⟩) rfl (fun K hK=>?_);go_simp;go_at_call 21;refine (Content_any (some ⟨w1.heap.size,0,none⟩) 2 uL 2 _ _ (Nat.le_refl _) HSLqP.out uL_VT (H7.out.below HBqP.out) (HKO.out.next HBqP.out) HN.out).mono ?_;rintro e' qC ⟨hb_,AC,cC,rfl,hs_⟩;rw [uL_cont] at hs_ ⊢;have HSqC:=Lh_ (show qP.heap.size≤qC.heap.size from hb_.size);have HBqC:=tb_ HBqP hb_;have xqC:=kb_ xqP hb_;have lqC:=kb_ lqP hb_;have tqC:=kb_ tqP hb_;have HSLqC:=Lh_ (HSLqP.out.next (Nat.le_refl _) hb_);have HSBqC:=Lh_ ((HSBqP.out).next (Nat.le_refl _) hb_);have HSPqC:=Lh_ ((HSP.out).next (Nat.le_refl _) hb_);have HSC:=Lh_ hs_;clear hs_ hb_;refine hK.out _ _ tqC.out (fun _=>?_);clear hK K;try simp only [Act.put,sA_,sB_,sC_]
 refine tk1 6 2 (.slice AB uBase.length cB) rfl (fun w' hS=>by go_simp) tqC.out ?_;try simp only [Act.put,sA_,sB_,sC_]
 refine tk1 7 3 (.slice AP uPath.length cP) rfl (fun w' hS=>by go_simp) tqC.out ?_;try simp only [Act.put,sA_,sB_,sC_]
 refine tk1 8 4 (.slice AC uCont.length cC) rfl (fun w' hS=>by go_simp) tqC.out ?_;try simp only [Act.put,sA_,sB_,sC_]
 refine wpAnyH_done (by kernel_rfl) ?_ _;obtain ⟨bB,oB,rfl,-,-,nB,vB⟩:=Sl.attr HSBqC.out (i:=0) (by decide);obtain ⟨bP,oP,eP,-,-,-,vP0⟩:=Sl.attr HSPqC.out (i:=0) (by decide);obtain ⟨bP',oP',eP',-,-,-,vP1⟩:=Sl.attr HSPqC.out (i:=1) (by decide);obtain ⟨rfl,rfl⟩:bP=bP'∧oP=oP':=by rw [eP] at eP';injection eP' with h;injection h with h1 h2;exact ⟨h1,h2⟩
 subst eP;clear eP';obtain ⟨bC,oC,rfl,-,-,-,vC⟩:=Sl.attr HSC.out (i:=1) (by decide);rw [show uBase.length=4 from rfl,show uPath.length=2 from rfl,show uCont.length=3 from rfl];have hcB:=HSBqC.out.1;have hcB2:=HSBqC.out.2.1;have hcP:=HSPqC.out.1;have hcP2:=HSPqC.out.2.1;have hcC:=HSC.out.1;have hcC2:=HSC.out.2.1;unfold maxLen at hcB2 hcP2 hcC2;rw [show uBase.length=4 from rfl] at hcB;rw [show uPath.length=2 from rfl] at hcP;rw [show uCont.length=3 from rfl] at hcC;rw [show (uBase[0]'(by decide)).name=⟨#[68,69,86,78,65,77,69]⟩ from rfl] at nB;rw [show (uBase[0]'(by decide)).value=⟨#[115,100,97,49]⟩ from rfl] at vB;rw [show (uPath[0]'(by decide)).value=⟨#[112,99,105,58,112,99,105,48,45,98,108,111,99,107,58,115,100,97,49]⟩ from rfl] at vP0;rw [show (uPath[1]'(by decide)).value=⟨#[112,99,105,95,112,99,105,48,95,98,108,111,99,107,95,115,100,97,49]⟩ from rfl] at vP1;rw [show (uCont[1]'(by decide)).value=⟨#[102,105,108,101,115,121,115,116,101,109]⟩ from rfl] at vC;rw [show oB+0 * 2=oB by omega] at nB;rw [show oB+0 * 2+1=oB+1 by omega] at vB;rw [show oP+0 * 2+1=oP+1 by omega] at vP0;rw [show oP+1 * 2+1=oP+3 by omega] at vP1;rw [show oC+1 * 2+1=oC+3 by omega] at vC;have vP3:=vP1;rw [show oP+3=oP+2+1 from rfl] at vP3;have vC3:=vC;rw [show oC+3=oC+2+1 from rfl] at vC3;go_wp2_with fail;go_ret;exact ⟨by try rfl,HBqC.out⟩
end Go.Proofs.YtjgllhlilbchpaaGreatDoor
namespace Go.Proofs.YtjgllhlilbchpaaGreatDoor
open Go.ChangeShapes Go.WideShapes Go.ChangeAt Go.RowKit Go.Cold
theorem gTabType:(Tryz.prog.globals[3]?).map (·.type)=some 197:=by kernel_rfl
theorem ok7_of_laid {W : World} (h : laidMetH Tryz.prog [("math/bits.deBruijn32tab", Rows.laid_math_bits_deBruijn32tab), ("math/bits.deBruijn64tab", Rows.laid_math_bits_deBruijn64tab), ("internal/strconv.uint64pow10", Rows.laid_internal_strconv_uint64pow10), ("unicode/utf8.acceptRanges", Rows.laid_unicode_utf8_acceptRanges), ("strconv.ErrRange", Rows.laid_strconv_ErrRange), ("strconv.ErrSyntax", Rows.laid_strconv_ErrSyntax), ("unicode.CaseRanges", Rows.laid_unicode_CaseRanges), ("unicode/utf8.first", Rows.laid_unicode_utf8_first)] W) : Ok7 W := by
 have h0 : laidMet Tryz.prog [("math/bits.deBruijn32tab", Rows.laid_math_bits_deBruijn32tab), ("math/bits.deBruijn64tab", Rows.laid_math_bits_deBruijn64tab), ("internal/strconv.uint64pow10", Rows.laid_internal_strconv_uint64pow10), ("unicode/utf8.acceptRanges", Rows.laid_unicode_utf8_acceptRanges), ("strconv.ErrRange", Rows.laid_strconv_ErrRange), ("strconv.ErrSyntax", Rows.laid_strconv_ErrSyntax), ("unicode.CaseRanges", Rows.laid_unicode_CaseRanges), ("unicode/utf8.first", Rows.laid_unicode_utf8_first)] W := h;have ht := Lib.tabIs_of_head (k := .u64) (zs := Lib.pow10Tab) tab_named gTabType Tryz.underlying197 Tryz.underlying179 (by kernel_rfl) (by kernel_rfl) h0.tail.tail;obtain ⟨⟨ev, h1, h2⟩, ⟨ev2, h3, h4⟩⟩ := oka_of_laid h;exact ⟨⟨ev, h1, h2⟩, ⟨ev2, h3, h4⟩, ht⟩
end Go.Proofs.YtjgllhlilbchpaaGreatDoor
namespace Go.Proofs.YtjgllhlilbchpaaGreatDoor
open Go.ChangeShapes Go.WideShapes Go.ChangeAt Go.RowKit Go.Cold
theorem accept_is:(Rows.laid_unicode_utf8_acceptRanges:DataW Unit)=Lib.acceptData:=by kernel_rfl
theorem first_is:(Rows.laid_unicode_utf8_first:DataW Unit)=Lib.firstData:=by kernel_rfl
theorem okb_of {W : World} {rest : List (String × DataW Unit)} (h0 : laidMet Tryz.prog (("math/bits.deBruijn32tab", Rows.laid_math_bits_deBruijn32tab) :: ("math/bits.deBruijn64tab", Rows.laid_math_bits_deBruijn64tab) :: ("internal/strconv.uint64pow10", Rows.laid_internal_strconv_uint64pow10) :: ("unicode/utf8.acceptRanges", Rows.laid_unicode_utf8_acceptRanges) :: ("strconv.ErrRange", Rows.laid_strconv_ErrRange) :: ("strconv.ErrSyntax", Rows.laid_strconv_ErrSyntax) :: rest) W) (hf : ("unicode/utf8.first", Rows.laid_unicode_utf8_first) ∈ rest) : Ok7 W ∧ OkU W := by
 have ht := Lib.tabIs_of_head (k := .u64) (zs := Lib.pow10Tab) tab_named gTabType Tryz.underlying197 Tryz.underlying179 (by kernel_rfl) (by kernel_rfl) h0.tail.tail;have h2 := h0.tail.tail.tail.tail;obtain ⟨a1, s1, hv1, -, -, -⟩ := laid_sentinel h2 gER gERType Tryz.underlying123 rowErr Tryz.underlying225 Tryz.underlying227 rfl rfl Tryz.underlying9 (by kernel_rfl) (by kernel_rfl);obtain ⟨a0, s0, hv0, -, -, -⟩ := laid_sentinel h2.tail gES gESType Tryz.underlying123 rowErr Tryz.underlying225 Tryz.underlying227 rfl rfl Tryz.underlying9 (by kernel_rfl) (by kernel_rfl);have hr1 : Lib.VarReads Tryz.prog W "unicode/utf8.first" Lib.firstData := by rw [← first_is]; exact Lib.laidMet.reads h0 (by simp only [List.mem_cons]; exact .inr (.inr (.inr (.inr (.inr (.inr hf))))))
 have hr2 : Lib.VarReads Tryz.prog W "unicode/utf8.acceptRanges" Lib.acceptData := by rw [← accept_is]; exact Lib.laidMet.reads h0 (.tail _ (.tail _ (.tail _ (.head _))))
 have hu:=utf8Tabs_of_readsT (U8Types.of260 Tryz.lays260) ⟨by kernel_rfl,by kernel_rfl,by kernel_rfl,by kernel_rfl,by kernel_rfl,by kernel_rfl,by kernel_rfl⟩ hr1 hr2;exact ⟨⟨⟨_,by have h0:=World.var?_cell gES hv0 0;simpa using h0,.inr ⟨_,_,rfl⟩⟩,⟨_,by have h0:=World.var?_cell gER hv1 0;simpa using h0,.inr ⟨_,_,rfl⟩⟩,ht⟩,hu⟩
theorem okb7 {W : World} (h : laidMetH Tryz.prog [("math/bits.deBruijn32tab", Rows.laid_math_bits_deBruijn32tab), ("math/bits.deBruijn64tab", Rows.laid_math_bits_deBruijn64tab), ("internal/strconv.uint64pow10", Rows.laid_internal_strconv_uint64pow10), ("unicode/utf8.acceptRanges", Rows.laid_unicode_utf8_acceptRanges), ("strconv.ErrRange", Rows.laid_strconv_ErrRange), ("strconv.ErrSyntax", Rows.laid_strconv_ErrSyntax), ("unicode/utf8.first", Rows.laid_unicode_utf8_first)] W) : Ok7 W ∧ OkU W := by
 have h0 : laidMet Tryz.prog [("math/bits.deBruijn32tab", Rows.laid_math_bits_deBruijn32tab), ("math/bits.deBruijn64tab", Rows.laid_math_bits_deBruijn64tab), ("internal/strconv.uint64pow10", Rows.laid_internal_strconv_uint64pow10), ("unicode/utf8.acceptRanges", Rows.laid_unicode_utf8_acceptRanges), ("strconv.ErrRange", Rows.laid_strconv_ErrRange), ("strconv.ErrSyntax", Rows.laid_strconv_ErrSyntax), ("unicode/utf8.first", Rows.laid_unicode_utf8_first)] W := h;exact okb_of h0 (by simp)
theorem okb8 {W : World} (h : laidMetH Tryz.prog [("math/bits.deBruijn32tab", Rows.laid_math_bits_deBruijn32tab), ("math/bits.deBruijn64tab", Rows.laid_math_bits_deBruijn64tab), ("internal/strconv.uint64pow10", Rows.laid_internal_strconv_uint64pow10), ("unicode/utf8.acceptRanges", Rows.laid_unicode_utf8_acceptRanges), ("strconv.ErrRange", Rows.laid_strconv_ErrRange), ("strconv.ErrSyntax", Rows.laid_strconv_ErrSyntax), ("unicode.CaseRanges", Rows.laid_unicode_CaseRanges), ("unicode/utf8.first", Rows.laid_unicode_utf8_first)] W) : Ok7 W ∧ OkU W := by
 have h0 : laidMet Tryz.prog [("math/bits.deBruijn32tab", Rows.laid_math_bits_deBruijn32tab), ("math/bits.deBruijn64tab", Rows.laid_math_bits_deBruijn64tab), ("internal/strconv.uint64pow10", Rows.laid_internal_strconv_uint64pow10), ("unicode/utf8.acceptRanges", Rows.laid_unicode_utf8_acceptRanges), ("strconv.ErrRange", Rows.laid_strconv_ErrRange), ("strconv.ErrSyntax", Rows.laid_strconv_ErrSyntax), ("unicode.CaseRanges", Rows.laid_unicode_CaseRanges), ("unicode/utf8.first", Rows.laid_unicode_utf8_first)] W := h;exact okb_of h0 (by simp)
end Go.Proofs.YtjgllhlilbchpaaGreatDoor
