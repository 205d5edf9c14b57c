/-
  The walks of builtin.finders,builtin.Run and the reference's Run.
-/
import Derived.Test.YtjgllhlilbchpaaGreatDoorRSP
import Derived.Test.YtjgllhlilbchpaaGreatDoorRTK
import Derived.Test.YtjgllhlilbchpaaGreatDoorRL
import Derived.Test.YtjgllhlilbchpaaGreatDoorRC
import Derived.Test.YtjgllhlilbchpaaGreatDoorRRA
import Derived.Test.YtjgllhlilbchpaaGreatDoorRSC
import Derived.Test.YtjgllhlilbchpaaGreatDoorRUC
import Derived.Lib.LaidU8T
import Derived.PinnedBridge
set_option linter.unusedSimpArgs false
set_option linter.unusedVariables false
namespace Go.Cold
open Go Go.RowKit Go.Proofs.YtjgllhlilbchpaaGreatDoor
section
variable {P:Program} {w:World} {kt et t:TypeId} {b clock:Nat} {es:Array MapEntry}
end
end Go.Cold
namespace Go.Proofs.YtjgllhlilbchpaaGreatDoor
open Go.RowKit Go.Cold
end Go.Proofs.YtjgllhlilbchpaaGreatDoor
namespace Go.Cold
open Go Go.RowKit Go.Proofs.YtjgllhlilbchpaaGreatDoor
def obsA (l:List Attr):List (List UInt8 × List UInt8):=l.map fun a=>(a.name.data.toList,a.value.data.toList)
theorem obsA_inj:∀ {l r:List Attr},obsA l=obsA r→l=r
 | [],[],_=>rfl
 | [],_ :: _,h=>by cases h
 | _ :: _,[],h=>by cases h
 | a :: l,b :: r,h=>by
  unfold obsA at h;rw [List.map_cons,List.map_cons] at h;injection h with h1 h2
  injection h1 with h3 h4
  have e:a=b:=by
   obtain ⟨a1,a2⟩:=a;obtain ⟨b1,b2⟩:=b;rw [show a1=b1 from ba_ext h3,show a2=b2 from ba_ext h4]
  rw [e,obsA_inj (show obsA l=obsA r from h2)]
def uC:Attr:=⟨⟨#[99,111,110,116,101,110,116]⟩,⟨#[102,115,58,117,49,58,114,111,111,116]⟩⟩
def u1D:Dev:=⟨1,0,⟨#[112,99,105,48]⟩,⟨#[112,99,105,48]⟩,⟨#[112,99,105]⟩,⟨#[]⟩,⟨#[]⟩,1,0,[]⟩
def u2D:Dev:=⟨2,1,⟨#[115,100,97,49]⟩,⟨#[115,100,97,49]⟩,⟨#[98,108,111,99,107]⟩,⟨#[]⟩,⟨#[]⟩,2,9,[uC]⟩
def uL:List Dev:=[u1D,u2D]
theorem uL_VT:VT uL:=(check_VT (by decide)).1 (by decide +kernel)
def uBase:List Attr:=[⟨⟨#[68,69,86,78,65,77,69]⟩,⟨#[115,100,97,49]⟩⟩,⟨⟨#[68,69,86,80,65,84,72]⟩,⟨#[47,112,99,105,48,47,115,100,97,49]⟩⟩,⟨⟨#[78,85,77,66,69,82]⟩,⟨#[57]⟩⟩,⟨⟨#[83,85,66,83,89,83,84,69,77]⟩,⟨#[98,108,111,99,107]⟩⟩]
def uPath:List Attr:=[⟨⟨#[73,68,95,80,65,84,72]⟩,⟨#[112,99,105,58,112,99,105,48,45,98,108,111,99,107,58,115,100,97,49]⟩⟩,⟨⟨#[73,68,95,80,65,84,72,95,84,65,71]⟩,⟨#[112,99,105,95,112,99,105,48,95,98,108,111,99,107,95,115,100,97,49]⟩⟩]
def uCont:List Attr:=[⟨⟨#[73,68,95,70,83,95,76,65,66,69,76]⟩,⟨#[114,111,111,116]⟩⟩,⟨⟨#[73,68,95,70,83,95,85,83,65,71,69]⟩,⟨#[102,105,108,101,115,121,115,116,101,109]⟩⟩,⟨⟨#[73,68,95,70,83,95,85,85,73,68]⟩,⟨#[117,49]⟩⟩]
theorem uL_base:baseL uL 2=uBase:=obsA_inj (by decide +kernel)
theorem uL_path:pathL uL 2=uPath:=obsA_inj (by decide +kernel)
def uT:ByteArray:=⟨#[102,115,58,117,49,58,114,111,111,116]⟩
def uTC:Cont:=.mk 1 ⟨#[117,49]⟩ ⟨#[114,111,111,116]⟩ 0 0 0 []
theorem cont_uT:contP uT 11 0=some (uTC,10):=by kernel_rfl
theorem ok_uTC:AllOk uTC:=AllOk_mk.2 ⟨by decide +kernel,fun x hx=>by cases hx⟩
theorem depth_uTC:depthC uTC≤6:=by unfold uTC;rw [depthC,depthL];decide
theorem parse_uT:parseC uT=some uTC:=by
 have h1:uT.size=10:=by decide +kernel
 unfold parseC;rw [if_neg (by omega),h1,cont_uT];simp [bad_of ok_uTC depth_uTC]
theorem uL_cont:Go.Cold.contL uL 2=uCont:=by
 have h:Go.Cold.contL uL 2=contA uTC:=contL_some (d:=u2D) rfl rfl (show parseC (contD u2D)=some uTC from by rw [show contD u2D=uT by rfl];exact parse_uT);rw [h];exact obsA_inj (by decide +kernel)
theorem uL_sl {w:World} {gx gl B:Nat} (hx:BoxL w gx [.string ⟨#[99,111,110,116,101,110,116]⟩,.string ⟨#[102,115,58,117,49,58,114,111,111,116]⟩]) (h:BoxL w gl [.int .i64 1,.int .i64 0,.string ⟨#[112,99,105,48]⟩,.string ⟨#[112,99,105,48]⟩,.string ⟨#[112,99,105]⟩,.string ⟨#[]⟩,.string ⟨#[]⟩,.int .i64 1,.int .i64 0,.slice none 0 0,.int .i64 2,.int .i64 1,.string ⟨#[115,100,97,49]⟩,.string ⟨#[115,100,97,49]⟩,.string ⟨#[98,108,111,99,107]⟩,.string ⟨#[]⟩,.string ⟨#[]⟩,.int .i64 2,.int .i64 9,.slice (some ⟨gx,0,none⟩) 1 1]) (hB1:gx<B) (hB:gl<B):Sl w B (some ⟨gl,0,none⟩) 2 uL:=by
 have hsx:SlS w (fun b=>b<B) (some ⟨gx,0,none⟩) 1 [uC]:=by
  refine ⟨by decide,by decide,fun _=>⟨gx,0,rfl,hB1,fun i x hi=>?_⟩⟩;have h0:i=0:=by have:=(List.getElem?_eq_some_iff.1 hi).1;simp at this;exact this
  subst h0;obtain rfl:=Option.some.inj hi;exact ⟨attrCells uC,⟨rfl,by decide,by decide⟩,fun j u hu=>by rw [Nat.zero_mul,Nat.zero_add,Nat.zero_add];exact hx.1 j u hu⟩
 refine ⟨by decide,by decide,fun _=>⟨gl,0,rfl,hB,fun i x hi=>?_⟩⟩;have hi2:i<2:=(List.getElem?_eq_some_iff.1 hi).1;have hcase:i=0∨i=1:=by omega
 rcases hcase with rfl | rfl
 ·
  obtain rfl:=Option.some.inj hi
  refine ⟨devCells u1D none 0,⟨none,0,rfl,?_,SlS.nil_⟩,fun j u hu=>?_⟩
  · refine ⟨?_,?_,?_,?_,?_,?_,?_,?_,?_⟩ <;> first | (unfold okI;decide +kernel) | decide +kernel
  ·
   rw [Nat.zero_mul,Nat.zero_add,Nat.zero_add]
   have hj:j<10:=by have:=(List.getElem?_eq_some_iff.1 hu).1;simpa [devCells] using this
   refine h.1 j u ?_;show (devCells u1D none 0 ++ devCells u2D (some ⟨gx,0,none⟩) 1)[j]? = some u
   rw [List.getElem?_append_left (by simpa [devCells] using hj)];exact hu
 ·
  obtain rfl:=Option.some.inj hi
  refine ⟨devCells u2D (some ⟨gx,0,none⟩) 1,⟨some ⟨gx,0,none⟩,1,rfl,?_,hsx⟩,fun j u hu=>?_⟩
  · refine ⟨?_,?_,?_,?_,?_,?_,?_,?_,?_⟩ <;> first | (unfold okI;decide +kernel) | decide +kernel
  ·
   rw [Nat.zero_add,show 1 * Rep.size Dev+j=10+j from rfl]
   refine h.1 (10+j) u ?_;show (devCells u1D none 0 ++ devCells u2D (some ⟨gx,0,none⟩) 1)[10+j]? = some u
   rw [List.getElem?_append_right (by simp [devCells]),show 10+j - (devCells u1D none 0).length=j by simp [devCells]];exact hu
end Go.Cold
namespace Go.Proofs.YtjgllhlilbchpaaGreatDoor
open Go.RowKit Go.Cold
set_option maxRecDepth 100000 in
set_option maxHeartbeats 4000000 in
theorem known_any (w:World) (hko:Ok w) (h7:Ok7 w) (hk8:Ok8 w) (hu:OkU w):Calls Tryz.prog 15 #[] w fun e w'=>e=.returned (.bool true)∧Below w.heap.size w w':=by
 have HKO:=Lh_ hko;have H7:=Lh_ h7;have HK8:=Lh_ hk8;have HU:=Lh_ hu;clear hko h7 hk8 hu;go_enter Tryz.func15,Tryz.ntmps15;go_upto_region 2 with fail
 obtain ⟨w1,hw1,hbw1,HGw1,HXxw1⟩:=bx_ w [.string ⟨#[99,111,110,116,101,110,116]⟩,.string ⟨#[102,115,58,117,49,58,114,111,111,116]⟩] 42;try simp only [hw1]
 have HSw1:=Lh_ (show w.heap.size≤w1.heap.size from hbw1.size);have HBw1:=Lh_ hbw1;clear hw1 hbw1;try rw [← HGw1.out]
 obtain ⟨w2,hw2,hbw2,HGw2,HXlw2⟩:=bx_ w1 [.int .i64 1,.int .i64 0,.string ⟨#[112,99,105,48]⟩,.string ⟨#[112,99,105,48]⟩,.string ⟨#[112,99,105]⟩,.string ⟨#[]⟩,.string ⟨#[]⟩,.int .i64 1,.int .i64 0,.slice none 0 0,.int .i64 2,.int .i64 1,.string ⟨#[115,100,97,49]⟩,.string ⟨#[115,100,97,49]⟩,.string ⟨#[98,108,111,99,107]⟩,.string ⟨#[]⟩,.string ⟨#[]⟩,.int .i64 2,.int .i64 9,.slice (some ⟨w.heap.size,0,none⟩) 1 1] 32;try simp only [hw2]
 have HSw2:=Lh_ (show w1.heap.size≤w2.heap.size from hbw2.size);have HBw2:=tb_ HBw1 hbw2;have xw2:=kb_ HXxw1 hbw2;clear hw2 hbw2;try rw [← HGw2.out]
 have HSL:=Lh_ (uL_sl xw2.out HXlw2.out xw2.out.2.2 HXlw2.out.2.2);obtain ⟨w3,hw3,hbw3,HGw3,HXtw3⟩:=bx_ w2 [.slice (some ⟨w1.heap.size,0,none⟩) 2 2] 28;try simp only [hw3]
 have HSw3:=Lh_ (show w2.heap.size≤w3.heap.size from hbw3.size);have HBw3:=tb_ HBw2 hbw3;have xw3:=kb_ xw2 hbw3;have lw3:=kb_ HXlw2 hbw3;have HSLw3:=Lh_ (HSL.out.next (Nat.le_refl _) hbw3);clear hw3 hbw3;try rw [← HGw3.out]
 have HN:=Lh_ (show okI 2 from ⟨by decide,by decide⟩);refine wp_region_held_drew (S:=fun w'=>BoxL w' (w2.heap.size) [.slice (some ⟨w1.heap.size,0,none⟩) 2 2]) (by kernel_rfl) HXtw3.out.drew (fun hS0=>?_);obtain ⟨wd,hwd⟩:∃ z,World.drew w3=z:=⟨_,rfl⟩;rw [hwd] at hS0 ⊢;have hb_:Below w3.heap.size w3 wd:=by rw [← hwd];exact below_drewN_self _ _ 1
 clear hwd hS0;have HSwd:=Lh_ (show w3.heap.size≤wd.heap.size from hb_.size);have HBwd:=tb_ HBw3 hb_;have xwd:=kb_ xw3 hb_;have lwd:=kb_ lw3 hb_;have twd:=kb_ HXtw3 hb_;have HSLwd:=Lh_ (HSLw3.out.next (Nat.le_refl _) hb_);clear hb_;refine tk1 0 11 (.agg #[.slice (some ⟨w1.heap.size,0,none⟩) 2 2]) rfl (fun w' hS=>by (have u0_:=hS.1 0 _ rfl;go_simp)) twd.out ?_;try simp only [Act.put,sA_,sB_,sC_]
 refine tk1 2 13 (.agg #[.slice (some ⟨w1.heap.size,0,none⟩) 2 2]) rfl (fun w' hS=>by (have u0_:=hS.1 0 _ rfl;go_simp)) twd.out ?_;try simp only [Act.put,sA_,sB_,sC_]
 refine tk1 4 15 (.agg #[.slice (some ⟨w1.heap.size,0,none⟩) 2 2]) rfl (fun w' hS=>by (have u0_:=hS.1 0 _ rfl;go_simp)) twd.out ?_;try simp only [Act.put,sA_,sB_,sC_]
 refine rd1 1 (o:=⟨some 12,.call ⟨_,_,_⟩,_,_,_,_⟩) rfl (fun K hK=>?_);go_simp;go_at_call 14;refine (Base_any (some ⟨w1.heap.size,0,none⟩) 2 uL 2 _ _ (Nat.le_refl _) HSLwd.out uL_VT (H7.out.below HBwd.out) (HKO.out.next HBwd.out) HN.out).mono ?_;rintro e' qB ⟨hb_,AB,cB,rfl,hs_⟩;rw [uL_base] at hs_ ⊢;have HSqB:=Lh_ (show wd.heap.size≤qB.heap.size from hb_.size);have HBqB:=tb_ HBwd hb_;have xqB:=kb_ xwd hb_;have lqB:=kb_ lwd hb_;have tqB:=kb_ twd hb_;have HSLqB:=Lh_ (HSLwd.out.next (Nat.le_refl _) hb_);have HSB:=Lh_ hs_;clear hs_ hb_;refine hK.out _ _ tqB.out (fun _=>?_);clear hK K;try simp only [Act.put,sA_,sB_,sC_]
 refine rd1 3 (o:=⟨some 14,.call ⟨_,_,_⟩,_,_,_,_⟩) rfl (fun K hK=>?_);go_simp;go_at_call 12;refine (BPath_any (some ⟨w1.heap.size,0,none⟩) 2 uL 2 _ _ (Nat.le_refl _) HSLqB.out uL_VT (H7.out.below HBqB.out) HN.out (HU.out.below HBqB.out)).mono ?_;rintro e' qP ⟨hb_,AP,cP,rfl,hs_⟩;rw [uL_path] at hs_ ⊢;have HSqP:=Lh_ (show qB.heap.size≤qP.heap.size from hb_.size);have HBqP:=tb_ HBqB hb_;have xqP:=kb_ xqB hb_;have lqP:=kb_ lqB hb_;have tqP:=kb_ tqB hb_;have HSLqP:=Lh_ (HSLqB.out.next (Nat.le_refl _) hb_);have HSBqP:=Lh_ ((HSB.out).next (Nat.le_refl _) hb_);have HSP:=Lh_ hs_;clear hs_ hb_;refine hK.out _ _ tqP.out (fun _=>?_);clear hK K;try simp only [Act.put,sA_,sB_,sC_]
 refine rd1 5 (o:=⟨some 16,.call ⟨_,_,_⟩,_,_,_,_⟩) rfl (fun K hK=>?_);go_simp;go_at_call 21;refine (Content_any (some ⟨w1.heap.size,0,none⟩) 2 uL 2 _ _ (Nat.le_refl _) HSLqP.out uL_VT (H7.out.below HBqP.out) (HKO.out.next HBqP.out) HN.out).mono ?_;rintro e' qC ⟨hb_,AC,cC,rfl,hs_⟩;rw [uL_cont] at hs_ ⊢;have HSqC:=Lh_ (show qP.heap.size≤qC.heap.size from hb_.size);have HBqC:=tb_ HBqP hb_;have xqC:=kb_ xqP hb_;have lqC:=kb_ lqP hb_;have tqC:=kb_ tqP hb_;have HSLqC:=Lh_ (HSLqP.out.next (Nat.le_refl _) hb_);have HSBqC:=Lh_ ((HSBqP.out).next (Nat.le_refl _) hb_);have HSPqC:=Lh_ ((HSP.out).next (Nat.le_refl _) hb_);have HSC:=Lh_ hs_;clear hs_ hb_;refine hK.out _ _ tqC.out (fun _=>?_);clear hK K;try simp only [Act.put,sA_,sB_,sC_]
 refine tk1 6 2 (.slice AB uBase.length cB) rfl (fun w' hS=>by go_simp) tqC.out ?_;try simp only [Act.put,sA_,sB_,sC_]
 refine tk1 7 3 (.slice AP uPath.length cP) rfl (fun w' hS=>by go_simp) tqC.out ?_;try simp only [Act.put,sA_,sB_,sC_]
 refine tk1 8 4 (.slice AC uCont.length cC) rfl (fun w' hS=>by go_simp) tqC.out ?_;try simp only [Act.put,sA_,sB_,sC_]
 refine wpAnyH_done (by kernel_rfl) ?_ _;obtain ⟨bB,oB,rfl,-,-,nB,vB⟩:=Sl.attr HSBqC.out (i:=0) (by decide);obtain ⟨bP,oP,eP,-,-,-,vP0⟩:=Sl.attr HSPqC.out (i:=0) (by decide);obtain ⟨bP',oP',eP',-,-,-,vP1⟩:=Sl.attr HSPqC.out (i:=1) (by decide);obtain ⟨rfl,rfl⟩:bP=bP'∧oP=oP':=by rw [eP] at eP';injection eP' with h;injection h with h1 h2;exact ⟨h1,h2⟩
 subst eP;clear eP';obtain ⟨bC,oC,rfl,-,-,-,vC⟩:=Sl.attr HSC.out (i:=1) (by decide);rw [show uBase.length=4 from rfl,show uPath.length=2 from rfl,show uCont.length=3 from rfl];have hcB:=HSBqC.out.1;have hcB2:=HSBqC.out.2.1;have hcP:=HSPqC.out.1;have hcP2:=HSPqC.out.2.1;have hcC:=HSC.out.1;have hcC2:=HSC.out.2.1;unfold maxLen at hcB2 hcP2 hcC2;rw [show uBase.length=4 from rfl] at hcB;rw [show uPath.length=2 from rfl] at hcP;rw [show uCont.length=3 from rfl] at hcC;rw [show (uBase[0]'(by decide)).name=⟨#[68,69,86,78,65,77,69]⟩ from rfl] at nB;rw [show (uBase[0]'(by decide)).value=⟨#[115,100,97,49]⟩ from rfl] at vB;rw [show (uPath[0]'(by decide)).value=⟨#[112,99,105,58,112,99,105,48,45,98,108,111,99,107,58,115,100,97,49]⟩ from rfl] at vP0;rw [show (uPath[1]'(by decide)).value=⟨#[112,99,105,95,112,99,105,48,95,98,108,111,99,107,95,115,100,97,49]⟩ from rfl] at vP1;rw [show (uCont[1]'(by decide)).value=⟨#[102,105,108,101,115,121,115,116,101,109]⟩ from rfl] at vC;rw [show oB+0 * 2=oB by omega] at nB;rw [show oB+0 * 2+1=oB+1 by omega] at vB;rw [show oP+0 * 2+1=oP+1 by omega] at vP0;rw [show oP+1 * 2+1=oP+3 by omega] at vP1;rw [show oC+1 * 2+1=oC+3 by omega] at vC;have vP3:=vP1;rw [show oP+3=oP+2+1 from rfl] at vP3;have vC3:=vC;rw [show oC+3=oC+2+1 from rfl] at vC3;go_wp2_with fail;go_ret;exact ⟨by try rfl,HBqC.out⟩
end Go.Proofs.YtjgllhlilbchpaaGreatDoor
namespace Go.Proofs.YtjgllhlilbchpaaGreatDoor
open Go.ChangeShapes Go.WideShapes Go.ChangeAt Go.RowKit Go.Cold
theorem gTabType:(Tryz.prog.globals[3]?).map (·.type)=some 197:=by kernel_rfl
theorem ok7_of_laid {W : World} (h : laidMetH Tryz.prog [("math/bits.deBruijn32tab", Rows.laid_math_bits_deBruijn32tab), ("math/bits.deBruijn64tab", Rows.laid_math_bits_deBruijn64tab), ("internal/strconv.uint64pow10", Rows.laid_internal_strconv_uint64pow10), ("unicode/utf8.acceptRanges", Rows.laid_unicode_utf8_acceptRanges), ("strconv.ErrRange", Rows.laid_strconv_ErrRange), ("strconv.ErrSyntax", Rows.laid_strconv_ErrSyntax), ("unicode.CaseRanges", Rows.laid_unicode_CaseRanges), ("unicode/utf8.first", Rows.laid_unicode_utf8_first)] W) : Ok7 W := by
 have h0 : laidMet Tryz.prog [("math/bits.deBruijn32tab", Rows.laid_math_bits_deBruijn32tab), ("math/bits.deBruijn64tab", Rows.laid_math_bits_deBruijn64tab), ("internal/strconv.uint64pow10", Rows.laid_internal_strconv_uint64pow10), ("unicode/utf8.acceptRanges", Rows.laid_unicode_utf8_acceptRanges), ("strconv.ErrRange", Rows.laid_strconv_ErrRange), ("strconv.ErrSyntax", Rows.laid_strconv_ErrSyntax), ("unicode.CaseRanges", Rows.laid_unicode_CaseRanges), ("unicode/utf8.first", Rows.laid_unicode_utf8_first)] W := h;have ht := Lib.tabIs_of_head (k := .u64) (zs := Lib.pow10Tab) tab_named gTabType Tryz.underlying197 Tryz.underlying179 (by kernel_rfl) (by kernel_rfl) h0.tail.tail;obtain ⟨⟨ev, h1, h2⟩, ⟨ev2, h3, h4⟩⟩ := oka_of_laid h;exact ⟨⟨ev, h1, h2⟩, ⟨ev2, h3, h4⟩, ht⟩
end Go.Proofs.YtjgllhlilbchpaaGreatDoor
namespace Go.Proofs.YtjgllhlilbchpaaGreatDoor
open Go.ChangeShapes Go.WideShapes Go.ChangeAt Go.RowKit Go.Cold
theorem accept_is:(Rows.laid_unicode_utf8_acceptRanges:DataW Unit)=Lib.acceptData:=by kernel_rfl
theorem first_is:(Rows.laid_unicode_utf8_first:DataW Unit)=Lib.firstData:=by kernel_rfl
theorem okb_of {W : World} {rest : List (String × DataW Unit)} (h0 : laidMet Tryz.prog (("math/bits.deBruijn32tab", Rows.laid_math_bits_deBruijn32tab) :: ("math/bits.deBruijn64tab", Rows.laid_math_bits_deBruijn64tab) :: ("internal/strconv.uint64pow10", Rows.laid_internal_strconv_uint64pow10) :: ("unicode/utf8.acceptRanges", Rows.laid_unicode_utf8_acceptRanges) :: ("strconv.ErrRange", Rows.laid_strconv_ErrRange) :: ("strconv.ErrSyntax", Rows.laid_strconv_ErrSyntax) :: rest) W) (hf : ("unicode/utf8.first", Rows.laid_unicode_utf8_first) ∈ rest) : Ok7 W ∧ OkU W := by
 have ht := Lib.tabIs_of_head (k := .u64) (zs := Lib.pow10Tab) tab_named gTabType Tryz.underlying197 Tryz.underlying179 (by kernel_rfl) (by kernel_rfl) h0.tail.tail;have h2 := h0.tail.tail.tail.tail;obtain ⟨a1, s1, hv1, -, -, -⟩ := laid_sentinel h2 gER gERType Tryz.underlying123 rowErr Tryz.underlying225 Tryz.underlying227 rfl rfl Tryz.underlying9 (by kernel_rfl) (by kernel_rfl);obtain ⟨a0, s0, hv0, -, -, -⟩ := laid_sentinel h2.tail gES gESType Tryz.underlying123 rowErr Tryz.underlying225 Tryz.underlying227 rfl rfl Tryz.underlying9 (by kernel_rfl) (by kernel_rfl);have hr1 : Lib.VarReads Tryz.prog W "unicode/utf8.first" Lib.firstData := by rw [← first_is]; exact Lib.laidMet.reads h0 (by simp only [List.mem_cons]; exact .inr (.inr (.inr (.inr (.inr (.inr hf))))))
 have hr2 : Lib.VarReads Tryz.prog W "unicode/utf8.acceptRanges" Lib.acceptData := by rw [← accept_is]; exact Lib.laidMet.reads h0 (.tail _ (.tail _ (.tail _ (.head _))))
 have hu:=utf8Tabs_of_readsT (U8Types.of260 Tryz.lays260) ⟨by kernel_rfl,by kernel_rfl,by kernel_rfl,by kernel_rfl,by kernel_rfl,by kernel_rfl,by kernel_rfl⟩ hr1 hr2;exact ⟨⟨⟨_,by have h0:=World.var?_cell gES hv0 0;simpa using h0,.inr ⟨_,_,rfl⟩⟩,⟨_,by have h0:=World.var?_cell gER hv1 0;simpa using h0,.inr ⟨_,_,rfl⟩⟩,ht⟩,hu⟩
theorem okb7 {W : World} (h : laidMetH Tryz.prog [("math/bits.deBruijn32tab", Rows.laid_math_bits_deBruijn32tab), ("math/bits.deBruijn64tab", Rows.laid_math_bits_deBruijn64tab), ("internal/strconv.uint64pow10", Rows.laid_internal_strconv_uint64pow10), ("unicode/utf8.acceptRanges", Rows.laid_unicode_utf8_acceptRanges), ("strconv.ErrRange", Rows.laid_strconv_ErrRange), ("strconv.ErrSyntax", Rows.laid_strconv_ErrSyntax), ("unicode/utf8.first", Rows.laid_unicode_utf8_first)] W) : Ok7 W ∧ OkU W := by
 have h0 : laidMet Tryz.prog [("math/bits.deBruijn32tab", Rows.laid_math_bits_deBruijn32tab), ("math/bits.deBruijn64tab", Rows.laid_math_bits_deBruijn64tab), ("internal/strconv.uint64pow10", Rows.laid_internal_strconv_uint64pow10), ("unicode/utf8.acceptRanges", Rows.laid_unicode_utf8_acceptRanges), ("strconv.ErrRange", Rows.laid_strconv_ErrRange), ("strconv.ErrSyntax", Rows.laid_strconv_ErrSyntax), ("unicode/utf8.first", Rows.laid_unicode_utf8_first)] W := h;exact okb_of h0 (by simp)
theorem okb8 {W : World} (h : laidMetH Tryz.prog [("math/bits.deBruijn32tab", Rows.laid_math_bits_deBruijn32tab), ("math/bits.deBruijn64tab", Rows.laid_math_bits_deBruijn64tab), ("internal/strconv.uint64pow10", Rows.laid_internal_strconv_uint64pow10), ("unicode/utf8.acceptRanges", Rows.laid_unicode_utf8_acceptRanges), ("strconv.ErrRange", Rows.laid_strconv_ErrRange), ("strconv.ErrSyntax", Rows.laid_strconv_ErrSyntax), ("unicode.CaseRanges", Rows.laid_unicode_CaseRanges), ("unicode/utf8.first", Rows.laid_unicode_utf8_first)] W) : Ok7 W ∧ OkU W := by
 have h0 : laidMet Tryz.prog [("math/bits.deBruijn32tab", Rows.laid_math_bits_deBruijn32tab), ("math/bits.deBruijn64tab", Rows.laid_math_bits_deBruijn64tab), ("internal/strconv.uint64pow10", Rows.laid_internal_strconv_uint64pow10), ("unicode/utf8.acceptRanges", Rows.laid_unicode_utf8_acceptRanges), ("strconv.ErrRange", Rows.laid_strconv_ErrRange), ("strconv.ErrSyntax", Rows.laid_strconv_ErrSyntax), ("unicode.CaseRanges", Rows.laid_unicode_CaseRanges), ("unicode/utf8.first", Rows.laid_unicode_utf8_first)] W := h;exact okb_of h0 (by simp)
end Go.Proofs.YtjgllhlilbchpaaGreatDoor
