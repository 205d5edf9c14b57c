/-
  The walks of builtin.set,builtin.Key and the reference's Key.
-/
import Derived.Test.YtjgllhlilbchpaaGreatDoorQTK
import Derived.Test.YtjgllhlilbchpaaGreatDoorQUB
import Derived.Test.YtjgllhlilbchpaaGreatDoorQUA
import Derived.Lib.SlicesS
import Derived.Test.YtjgllhlilbchpaaGreatDoorQL
import Derived.Lib.ItoaLen
import Derived.Deep.RegionHeld3
import Derived.Test.YtjgllhlilbchpaaGreatDoorQD
import Derived.Test.YtjgllhlilbchpaaGreatDoorQP
import Derived.Shelf.Strings.MapAny
import Derived.Test.YtjgllhlilbchpaaGreatDoorQC
import Derived.Test.YtjgllhlilbchpaaGreatDoorQSB
set_option linter.unusedSimpArgs false
set_option linter.unusedVariables false
namespace Go.Cold
open Go Go.RowKit Go.Proofs.YtjgllhlilbchpaaGreatDoor
def SlPost (l:List Attr) (w:World) (e:Ending) (w':World):Prop:=Below w.heap.size w w'∧∃ A c,e=.returned (.slice A l.length c)∧Sl w' w'.heap.size A c l
theorem SlPost.of_own {l:List Attr} {w w':World} {e:Ending} {v:Value} {T:TypeId} (hb:Below w.heap.size w w') (he:e=.returned v) (h:OwnsS (fun _=>False) w' w.heap.size T v l):SlPost l w e w':=by
 obtain ⟨A,c,hv,hs⟩:=h.sl;exact ⟨hb,A,c,by rw [he,hv],hs⟩
theorem str_eq {x:ByteArray} {l:List UInt8} {a:Array UInt8} (ha:(⟨a⟩:ByteArray).toList=l):(x.toList == l)=decide (x=⟨a⟩):=by
 rw [← ha];exact ba_beq x ⟨a⟩
end Go.Cold
namespace Go.Proofs.YtjgllhlilbchpaaGreatDoor
open Go.RowKit Go.Cold
set_option maxRecDepth 100000 in
theorem Put_any (A:Option Addr) (c:Nat) (xs:List Attr) (n x:ByteArray) (w:World) (B:Nat) (hB:B≤w.heap.size) (hx:Sl w B A c xs) (hs:sortedA xs=true) (hl:xs.length≤1000) (h1:n.size≤maxLen) (h2:x.size≤maxLen) :
  Calls Tryz.prog 46 #[.slice A xs.length c,.string n,.string x] w (SlPost (putA xs n x) w):=by
 have hx1:=hx.1;have hx2:=hx.2.1;unfold maxLen at hx2;have HX:=Lh_ hx;have HB:=Lh_ hB;have HS:=Lh_ hs;have HL:=Lh_ hl;have H1:=Lh_ h1;have H2:=Lh_ h2;clear hx hB hs hl h1 h2;go_enter Tryz.func46,Tryz.ntmps46;by_cases hv:x.toList.isEmpty=true
 ·
  have hv2:(x.toList == (⟨#[]⟩:ByteArray).toList)=true:=by rw [show (⟨#[]⟩:ByteArray).toList=[] by decide +kernel];cases hq:x.toList with | nil=>rfl | cons a r=>rw [hq] at hv;cases hv
  have hv3:(x.toList == [])=true:=by cases hq:x.toList with | nil=>rfl | cons a r=>rw [hq] at hv;cases hv
  have HV:=Lh_ hv;clear hv;go_wp2;go_ret;have he:putA xs n x=xs:=by unfold putA;rw [if_pos HV.out]
  rw [he];exact ⟨Below.refl _ _,A,c,rfl,HX.out.more HB.out⟩
 ·
  have hv1:x.toList.isEmpty=false:=by simpa using hv
  have hv2:(x.toList == (⟨#[]⟩:ByteArray).toList)=false:=by rw [show (⟨#[]⟩:ByteArray).toList=[] by decide +kernel];cases hq:x.toList with | nil=>rw [hq] at hv1;cases hv1 | cons a r=>rfl
  have hv3:(x.toList == [])=false:=by cases hq:x.toList with | nil=>rw [hq] at hv1;cases hv1 | cons a r=>rfl
  have HV:=Lh_ hv;clear hv hv1;go_wp2_with fail;refine (DSet_any A c xs n x _ B HB.out HX.out HS.out HL.out H1.out H2.out).mono ?_;rintro e w1 ⟨hb1,v,rfl,hown⟩;have HP:=Lh_ (show SlPost (putA xs n x) w (.returned v) w1 from by rw [show putA xs n x=setA xs n x by unfold putA;rw [if_neg HV.out]];exact SlPost.of_own hb1 rfl hown);clear hb1 hown;go_wp2;go_ret;exact HP.out
end Go.Proofs.YtjgllhlilbchpaaGreatDoor
namespace Go.Cold
open Go Go.RowKit Go.Proofs.YtjgllhlilbchpaaGreatDoor
theorem base_none {L:List Dev} {n:Int} (h:(findD L n).isSome=false):baseL L n=[]:=by
 unfold baseL;cases hf:findD L n with
 | none=>rfl
 | some d=>rw [hf] at h;cases h
theorem strF_small {L:List Dev} (h:VT L) (n:Int):(strF L n).size≤maxLen:=by
 have:=str_size (fun d hd=>(h.small d hd).1) h.size n;unfold maxLen;omega
theorem itoaT_small {n:Int} (h:okI n):(itoaT n).size≤maxLen:=by
 have h1:=Go.Lib.itoa_length_le n h.1 h.2;show (Lib.itoa n).toArray.size≤maxLen
 rw [List.size_toArray];unfold maxLen;omega
theorem set_len {l:List Attr} {k v:ByteArray} {m:Nat} (h:l.length≤m):(setA l k v).length≤m+1:=by
 have:=setA_len l k v;omega
theorem base_some {L:List Dev} {n:Int} {d:Dev} (hq:(findD L n).isSome=true) (hd:d=(findD L n).getD zeroD):baseL L n=putAll (baseP (strF L n) d):=by
 unfold baseL;cases hf:findD L n with
 | none=>rw [hf] at hq;cases hq
 | some e=>rw [hf] at hd;rw [show d=e from hd]
end Go.Cold
namespace Go.Proofs.YtjgllhlilbchpaaGreatDoor
open Go.RowKit Go.Cold
end Go.Proofs.YtjgllhlilbchpaaGreatDoor
namespace Go.Cold
open Go Go.RowKit Go.Proofs.YtjgllhlilbchpaaGreatDoor
theorem put_next {ps:List (ByteArray × ByteArray)} {l:List Attr} {k v:ByteArray} (h:putAll ps=l) (hk:k ∉ ps.map (·.1)):putAll (ps ++ [(k,v)])=putA l k v:=by rw [← h];exact (putA_set hk).symm
theorem put_srt {ps:List (ByteArray × ByteArray)} {l:List Attr} (h:putAll ps=l):sortedA l=true:=by rw [← h];exact putAll_sorted _
theorem put_len {ps:List (ByteArray × ByteArray)} {l:List Attr} (h:putAll ps=l) (hn:ps.length≤1000):l.length≤1000:=by rw [← h];exact Nat.le_trans (putAll_len ps) hn
theorem cell_nx {w w':World} {b i:Nat} {v:Value} (h:w.cell? ⟨b,i,none⟩=some v) (hb:Below w.heap.size w w'):w'.cell? ⟨b,i,none⟩=some v:=(hb.cell (p:=⟨b,i,none⟩) (block_lt_of_cell h)).trans h
theorem putAll_nil:putAll []=[]:=rfl
end Go.Cold
namespace Go.Proofs.YtjgllhlilbchpaaGreatDoor
open Go.RowKit Go.Cold
theorem part_any (d:Dev) (A:Option Addr) (c:Nat) (w:World) (hs:d.sub.size≤1000) (ho:d.orig.size≤1000):Calls Tryz.prog 40 #[.agg #[.int .i64 d.idx,.int .i64 d.par,.string d.nm,.string d.orig,.string d.sub,.string d.drv,.string d.ali,.int .i64 d.kind,.int .i64 d.num,.slice A d.attrs.length c]] w fun e w'=>e=.returned (.string (partT d))∧Below w.heap.size w w':=by
 have f1:¬ 9223372036854775807<d.sub.size+1:=by omega
 have f2:¬ 9223372036854775807<d.sub.size+1+d.orig.size:=by omega
 clear hs ho;go_enter Tryz.func40,Tryz.ntmps40;go_upto_region 1 with fail
 obtain ⟨w1,hw1,hbw1,HGw1,HXpw1⟩:=bx_ w [.int .i64 d.idx,.int .i64 d.par,.string d.nm,.string d.orig,.string d.sub,.string d.drv,.string d.ali,.int .i64 d.kind,.int .i64 d.num,.slice A d.attrs.length c] 32;try simp only [hw1]
 have HBw1:=Lh_ hbw1;clear hw1 hbw1;try rw [← HGw1.out]
 obtain ⟨cp0,cp1,cp2,cp3,cp4,cp5,cp6,cp7,cp8,cp9⟩:=s10_ HXpw1.out.1;go_wp2;go_ret;exact ⟨by try rfl,HBw1.out⟩
set_option maxRecDepth 100000 in
set_option maxHeartbeats 4000000 in
theorem Base_any (A:Option Addr) (c:Nat) (L:List Dev) (n:Int) (w:World) (B:Nat) (hB:B≤w.heap.size) (hx:Sl w B A c L) (hv:VT L) (hok:Ok7 w) (hko:Ok w) (hn:okI n) :
  Calls Tryz.prog 14 #[.agg #[.slice A L.length c],.int .i64 n] w (SlPost (baseL L n) w):=by
 have hx1:=hx.1;have hx2:=hx.2.1;unfold maxLen at hx2;have HX:=Lh_ hx;have HB:=Lh_ hB;have HV:=Lh_ hv;have HOK:=Lh_ hok;clear hx hB hv hok;have HKO:=Lh_ hko;have HN:=Lh_ hn;clear hko hn;have HLA:=Lh_ (show ∀ d ∈ L,d.attrs.length≤1000000 from fun d hd=>attrs_le (HV.out.chk d hd));go_enter Tryz.func14,Tryz.ntmps14;go_upto_region 1 with fail
 obtain ⟨w1,hw1,hbw1,HGw1,HXtw1⟩:=bx_ w [.slice A L.length c] 28;try simp only [hw1]
 have HBw1:=Lh_ hbw1;clear hw1 hbw1;try rw [← HGw1.out]
 have ct0:=HXtw1.out.1 0 _ rfl;obtain ⟨q,hq⟩:∃ z,(findD L n).isSome=z:=⟨_,rfl⟩;have HQ:=Lh_ hq;clear hq;go_wp2_with fail;refine (TFind_any A c L n _ B (Nat.le_trans HB.out HBw1.out.size) (HX.out.keep (HBw1.out.mono HB.out)) HLA.out).mono ?_;rintro e w2 ⟨hbw2,d,A3,c3,hd,rfl,hod,hsd⟩;clear ct0;have HBw2:=tb_ HBw1 hbw2;have tw2:=kb_ HXtw1 hbw2;clear hbw2;have ct0:=tw2.out.1 0 _ rfl;rw [show (L.find? (byIdx n)).isSome=q from HQ.out];have Hd:=Lh_ (show d=(findD L n).getD zeroD from hd);have HOd:=Lh_ hod;clear hd hod hsd;go_upto_region 2 with fail
 obtain ⟨w3,hw3,hbw3,HGw3,HXaw3⟩:=bx_ w2 [.int .i64 d.idx,.int .i64 d.par,.string d.nm,.string d.orig,.string d.sub,.string d.drv,.string d.ali,.int .i64 d.kind,.int .i64 d.num,.slice A3 d.attrs.length c3] 32;try simp only [hw3]
 have HBw3:=tb_ HBw2 hbw3;have tw3:=kb_ tw2 hbw3;clear hw3 hbw3;try rw [← HGw3.out]
 clear ct0;have ct0:=tw3.out.1 0 _ rfl;obtain ⟨ca0,ca1,ca2,ca3,ca4,ca5,ca6,ca7,ca8,ca9⟩:=s10_ HXaw3.out.1;cases q
 ·
  have HE:=Lh_ (base_none HQ.out);go_wp2;go_ret;exact ⟨HBw3.out,none,0,by rw [HE.out];rfl,by rw [HE.out];exact Sl.nil_⟩
 ·
  obtain ⟨so,hso⟩:∃ z,strF L n=z:=⟨_,rfl⟩;obtain ⟨bc,hbc⟩:∃ z,(idxs L).contains n=z:=⟨_,rfl⟩;have HSO:=Lh_ hso;have HSZ:=Lh_ (show so.size≤maxLen from hso ▸ strF_small HV.out n);have HBC:=Lh_ hbc;clear hso hbc;have HBE:=Lh_ (show baseL L n=putAll (baseP so d) by rw [← HSO.out];exact base_some HQ.out Hd.out);have HSR:=Lh_ (show d.orig.size≤32 by have:=findD_small HV.out n;rw [← Hd.out] at this;exact this);obtain ⟨nd,hnd⟩:∃ z,(nodeD d).isSome=z:=⟨_,rfl⟩;have HND:=Lh_ hnd;clear hnd;go_wp2_with fail;refine (Origin_any A c L n _ B (Nat.le_trans HB.out HBw3.out.size) (HX.out.keep (HBw3.out.mono HB.out)) (fun d hd=>(HV.out.small d hd).1) HV.out.size HN.out).mono ?_;rintro e w4 ⟨rfl,hbw4⟩;clear ct0 ca0 ca1 ca2 ca3 ca4 ca5 ca6 ca7 ca8 ca9;have HBw4:=tb_ HBw3 hbw4;have tw4:=kb_ tw3 hbw4;have aw4:=kb_ HXaw3 hbw4;clear hbw4;rw [HSO.out,HBC.out];clear HBC;go_upto_region 5 with fail
  refine wp_region_held_drew (S:=fun w'=>BoxL w' (w2.heap.size) [.int .i64 d.idx,.int .i64 d.par,.string d.nm,.string d.orig,.string d.sub,.string d.drv,.string d.ali,.int .i64 d.kind,.int .i64 d.num,.slice A3 d.attrs.length c3]) (by kernel_rfl) aw4.out.drew (fun hS0=>?_);obtain ⟨wd,hwd⟩:∃ z,World.drew w4=z:=⟨_,rfl⟩;rw [hwd] at hS0 ⊢;have hb_:Below w4.heap.size w4 wd:=by rw [← hwd];exact below_drewN_self _ _ 1
  clear hwd hS0;have HBwd:=tb_ HBw4 hb_;have twd:=kb_ tw4 hb_;have awd:=kb_ aw4 hb_;clear hb_;refine tk1 0 26 (.string so) rfl (fun w' hS=>by go_simp) awd.out ?_;try simp only [Act.put,sA_,sB_,sC_]
  refine tk1 2 28 (.pointer (some ⟨w2.heap.size,4,none⟩)) rfl (fun w' hS=>by go_simp) awd.out ?_;try simp only [Act.put,sA_,sB_,sC_]
  refine tk1 3 29 (.string d.sub) rfl (fun w' hS=>by (have u0_:=hS.1 4 _ rfl;go_simp)) awd.out ?_;try simp only [Act.put,sA_,sB_,sC_]
  refine tk1 5 31 (.pointer (some ⟨w2.heap.size,5,none⟩)) rfl (fun w' hS=>by go_simp) awd.out ?_;try simp only [Act.put,sA_,sB_,sC_]
  refine tk1 6 32 (.string d.drv) rfl (fun w' hS=>by (have u0_:=hS.1 5 _ rfl;go_simp)) awd.out ?_;try simp only [Act.put,sA_,sB_,sC_]
  refine tk1 8 34 (.pointer (some ⟨w2.heap.size,6,none⟩)) rfl (fun w' hS=>by go_simp) awd.out ?_;try simp only [Act.put,sA_,sB_,sC_]
  refine tk1 9 35 (.string d.ali) rfl (fun w' hS=>by (have u0_:=hS.1 6 _ rfl;go_simp)) awd.out ?_;try simp only [Act.put,sA_,sB_,sC_]
  refine rd1 1 (o:=⟨some 27,.call ⟨_,_,_⟩,_,_,_,_⟩) rfl (fun K hK=>?_);go_simp;go_at_call 46;refine (Put_any none 0 [] kDevpath so _ wd.heap.size (Nat.le_refl _) Sl.nil_ (put_srt putAll_nil) (put_len putAll_nil (by simp)) (by decide) HSZ.out).mono ?_;rintro e' q1 ⟨hb_,A1_,c1_,rfl,hs_⟩;have HBq1:=tb_ HBwd hb_;have tq1:=kb_ twd hb_;have aq1:=kb_ awd hb_;obtain ⟨l1,hl_⟩:∃ z,putA [] kDevpath so=z:=⟨_,rfl⟩;rw [hl_] at hs_ ⊢;have HL1:=Lh_ (show putAll [(kDevpath,so)]=l1 from (put_next (ps:=[]) putAll_nil (by simp)).trans hl_);have HS1:=Lh_ hs_;clear hs_ hl_;clear hb_;refine hK.out _ _ aq1.out (fun _=>?_);clear hK K;try simp only [Act.put,sA_,sB_,sC_]
  refine rd1 4 (o:=⟨some 30,.call ⟨_,_,_⟩,_,_,_,_⟩) rfl (fun K hK=>?_);go_simp;go_at_call 46;refine (Put_any A1_ c1_ l1 kSubsystem d.sub _ q1.heap.size (Nat.le_refl _) HS1.out (put_srt HL1.out) (put_len HL1.out (by simp)) (by decide) HOd.out.2.2.2.2.1).mono ?_;rintro e' q2 ⟨hb_,A2_,c2_,rfl,hs_⟩;have HBq2:=tb_ HBq1 hb_;have tq2:=kb_ tq1 hb_;have aq2:=kb_ aq1 hb_;have HS1q2:=Lh_ ((HS1.out).next (Nat.le_refl _) hb_);obtain ⟨l2,hl_⟩:∃ z,putA l1 kSubsystem d.sub=z:=⟨_,rfl⟩;rw [hl_] at hs_ ⊢;have HL2:=Lh_ (show putAll [(kDevpath,so),(kSubsystem,d.sub)]=l2 from (put_next (ps:=[(kDevpath,so)]) HL1.out (by simp;decide +kernel)).trans hl_);have HS2:=Lh_ hs_;clear hs_ hl_;clear hb_;refine hK.out _ _ aq2.out (fun _=>?_);clear hK K;try simp only [Act.put,sA_,sB_,sC_]
  refine rd1 7 (o:=⟨some 33,.call ⟨_,_,_⟩,_,_,_,_⟩) rfl (fun K hK=>?_);go_simp;go_at_call 46;refine (Put_any A2_ c2_ l2 kDriver d.drv _ q2.heap.size (Nat.le_refl _) HS2.out (put_srt HL2.out) (put_len HL2.out (by simp)) (by decide) HOd.out.2.2.2.2.2.1).mono ?_;rintro e' q3 ⟨hb_,A3_,c3_,rfl,hs_⟩;have HBq3:=tb_ HBq2 hb_;have tq3:=kb_ tq2 hb_;have aq3:=kb_ aq2 hb_;have HS1q3:=Lh_ ((HS1q2.out).next (Nat.le_refl _) hb_);have HS2q3:=Lh_ ((HS2.out).next (Nat.le_refl _) hb_);obtain ⟨l3,hl_⟩:∃ z,putA l2 kDriver d.drv=z:=⟨_,rfl⟩;rw [hl_] at hs_ ⊢;have HL3:=Lh_ (show putAll [(kDevpath,so),(kSubsystem,d.sub),(kDriver,d.drv)]=l3 from (put_next (ps:=[(kDevpath,so),(kSubsystem,d.sub)]) HL2.out (by simp;decide +kernel)).trans hl_);have HS3:=Lh_ hs_;clear hs_ hl_;clear hb_;refine hK.out _ _ aq3.out (fun _=>?_);clear hK K;try simp only [Act.put,sA_,sB_,sC_]
  refine rd1 10 (o:=⟨some 36,.call ⟨_,_,_⟩,_,_,_,_⟩) rfl (fun K hK=>?_);go_simp;go_at_call 46;refine (Put_any A3_ c3_ l3 kModalias d.ali _ q3.heap.size (Nat.le_refl _) HS3.out (put_srt HL3.out) (put_len HL3.out (by simp)) (by decide) HOd.out.2.2.2.2.2.2.1).mono ?_;rintro e' q4 ⟨hb_,A4_,c4_,rfl,hs_⟩;have HBq4:=tb_ HBq3 hb_;have tq4:=kb_ tq3 hb_;have aq4:=kb_ aq3 hb_;have HS1q4:=Lh_ ((HS1q3.out).next (Nat.le_refl _) hb_);have HS2q4:=Lh_ ((HS2q3.out).next (Nat.le_refl _) hb_);have HS3q4:=Lh_ ((HS3.out).next (Nat.le_refl _) hb_);obtain ⟨l4,hl_⟩:∃ z,putA l3 kModalias d.ali=z:=⟨_,rfl⟩;rw [hl_] at hs_ ⊢;have HL4:=Lh_ (show putAll [(kDevpath,so),(kSubsystem,d.sub),(kDriver,d.drv),(kModalias,d.ali)]=l4 from (put_next (ps:=[(kDevpath,so),(kSubsystem,d.sub),(kDriver,d.drv)]) HL3.out (by simp;decide +kernel)).trans hl_);have HS4:=Lh_ hs_;clear hs_ hl_;clear hb_;refine hK.out _ _ aq4.out (fun _=>?_);clear hK K;try simp only [Act.put,sA_,sB_,sC_]
  refine tk1 11 9 (.slice A4_ l4.length c4_) rfl (fun w' hS=>by go_simp) aq4.out ?_;try simp only [Act.put,sA_,sB_,sC_]
  refine wpAnyH_done (by kernel_rfl) ?_ _;have ct0:=tq4.out.1 0 _ rfl;obtain ⟨ca0,ca1,ca2,ca3,ca4,ca5,ca6,ca7,ca8,ca9⟩:=s10_ aq4.out.1;go_wp2_with fail;refine (Node_any d A3 c3 _ (by have:=HSR.out;omega) (HKO.out.next HBq4.out)).mono ?_;rintro e w5 ⟨rfl,hbw5⟩;clear ct0 ca0 ca1 ca2 ca3 ca4 ca5 ca6 ca7 ca8 ca9;have HBw5:=tb_ HBq4 hbw5;have tw5:=kb_ tq4 hbw5;have aw5:=kb_ aq4 hbw5;have HS1w5:=Lh_ ((HS1q4.out).next (Nat.le_refl _) hbw5);have HS2w5:=Lh_ ((HS2q4.out).next (Nat.le_refl _) hbw5);have HS3w5:=Lh_ ((HS3q4.out).next (Nat.le_refl _) hbw5);have HS4w5:=Lh_ ((HS4.out).next (Nat.le_refl _) hbw5);clear hbw5;have ct0:=tw5.out.1 0 _ rfl;obtain ⟨ca0,ca1,ca2,ca3,ca4,ca5,ca6,ca7,ca8,ca9⟩:=s10_ aw5.out.1;rw [HND.out];cases nd
  ·
   clear ct0 ca0 ca1 ca2 ca3 ca4 ca5 ca6 ca7 ca8 ca9;have ct0:=tw5.out.1 0 _ rfl;obtain ⟨ca0,ca1,ca2,ca3,ca4,ca5,ca6,ca7,ca8,ca9⟩:=s10_ aw5.out.1;by_cases hk:d.kind=4
   ·
    have HK:=Lh_ hk;have hkb:(d.kind == 4)=true:=by rw [hk];rfl
    go_wp2_with fail;refine (Put_any A4_ c4_ l4 kInterface d.orig _ w5.heap.size (Nat.le_refl _) HS4w5.out (put_srt HL4.out) (put_len HL4.out (by simp)) (by decide) HOd.out.2.2.2.1).mono ?_;rintro e w6 ⟨hbw6,A5_,c5_,rfl,hs_⟩;clear ct0 ca0 ca1 ca2 ca3 ca4 ca5 ca6 ca7 ca8 ca9;have HBw6:=tb_ HBw5 hbw6;have tw6:=kb_ tw5 hbw6;have aw6:=kb_ aw5 hbw6;have HS1w6:=Lh_ ((HS1w5.out).next (Nat.le_refl _) hbw6);have HS2w6:=Lh_ ((HS2w5.out).next (Nat.le_refl _) hbw6);have HS3w6:=Lh_ ((HS3w5.out).next (Nat.le_refl _) hbw6);have HS4w6:=Lh_ ((HS4w5.out).next (Nat.le_refl _) hbw6);clear hbw6;have ct0:=tw6.out.1 0 _ rfl;obtain ⟨ca0,ca1,ca2,ca3,ca4,ca5,ca6,ca7,ca8,ca9⟩:=s10_ aw6.out.1;obtain ⟨l5,hl_⟩:∃ z,putA l4 kInterface d.orig=z:=⟨_,rfl⟩;rw [hl_] at hs_ ⊢;have HL5:=Lh_ (show putAll [(kDevpath,so),(kSubsystem,d.sub),(kDriver,d.drv),(kModalias,d.ali),(kInterface,d.orig)]=l5 from (put_next (ps:=[(kDevpath,so),(kSubsystem,d.sub),(kDriver,d.drv),(kModalias,d.ali)]) HL4.out (by simp;decide +kernel)).trans hl_);have HS5:=Lh_ hs_;clear hs_ hl_;have HE:=Lh_ (show baseL L n=l5 from by rw [HBE.out,← HL5.out];unfold baseP;rw [if_neg (by rw [HND.out];decide),if_pos HK.out];rfl);go_wp2;go_ret;exact ⟨HBw6.out,A5_,c5_,by rw [HE.out];rfl,by rw [HE.out];exact HS5.out⟩
   ·
    have HK:=Lh_ hk;have hkb:(d.kind == 4)=false:=by simpa using hk
    have HE:=Lh_ (show baseL L n=l4 from by rw [HBE.out,← HL4.out];unfold baseP;rw [if_neg (by rw [HND.out];decide),if_neg HK.out];rfl);go_wp2;go_ret;exact ⟨HBw5.out,A4_,c4_,by rw [HE.out];rfl,by rw [HE.out];exact HS4w5.out⟩
  ·
   go_upto_region 8 with fail
   refine wp_region_held_drew (S:=fun w'=>BoxL w' (w2.heap.size) [.int .i64 d.idx,.int .i64 d.par,.string d.nm,.string d.orig,.string d.sub,.string d.drv,.string d.ali,.int .i64 d.kind,.int .i64 d.num,.slice A3 d.attrs.length c3]) (by kernel_rfl) aw5.out.drew (fun hS0=>?_);obtain ⟨we,hwe⟩:∃ z,World.drew w5=z:=⟨_,rfl⟩;rw [hwe] at hS0 ⊢;have hb_:Below w5.heap.size w5 we:=by rw [← hwe];exact below_drewN_self _ _ 1
   clear hwe hS0;clear ct0 ca0 ca1 ca2 ca3 ca4 ca5 ca6 ca7 ca8 ca9;have HBwe:=tb_ HBw5 hb_;have twe:=kb_ tw5 hb_;have awe:=kb_ aw5 hb_;have HS1we:=Lh_ ((HS1w5.out).next (Nat.le_refl _) hb_);have HS2we:=Lh_ ((HS2w5.out).next (Nat.le_refl _) hb_);have HS3we:=Lh_ ((HS3w5.out).next (Nat.le_refl _) hb_);have HS4we:=Lh_ ((HS4w5.out).next (Nat.le_refl _) hb_);clear hb_;refine tk1 0 43 (.slice A4_ l4.length c4_) rfl (fun w' hS=>by go_simp) awe.out ?_;try simp only [Act.put,sA_,sB_,sC_]
   refine tk1 1 44 (.string (nodeV d)) rfl (fun w' hS=>by go_simp) awe.out ?_;try simp only [Act.put,sA_,sB_,sC_]
   refine tk1 3 46 (.pointer (some ⟨w2.heap.size,8,none⟩)) rfl (fun w' hS=>by go_simp) awe.out ?_;try simp only [Act.put,sA_,sB_,sC_]
   refine tk1 4 47 (.int .i64 d.num) rfl (fun w' hS=>by (have u0_:=hS.1 8 _ rfl;go_simp)) awe.out ?_;try simp only [Act.put,sA_,sB_,sC_]
   refine rd1 2 (o:=⟨some 45,.call ⟨_,_,_⟩,_,_,_,_⟩) rfl (fun K hK=>?_);go_simp;go_at_call 46;refine (Put_any A4_ c4_ l4 kDevname (nodeV d) _ we.heap.size (Nat.le_refl _) HS4we.out (put_srt HL4.out) (put_len HL4.out (by simp)) (by decide) (by have:=node_small HSR.out;unfold maxLen;omega)).mono ?_;rintro e' q7 ⟨hb_,A5_,c5_,rfl,hs_⟩;have HBq7:=tb_ HBwe hb_;have tq7:=kb_ twe hb_;have aq7:=kb_ awe hb_;have HS1q7:=Lh_ ((HS1we.out).next (Nat.le_refl _) hb_);have HS2q7:=Lh_ ((HS2we.out).next (Nat.le_refl _) hb_);have HS3q7:=Lh_ ((HS3we.out).next (Nat.le_refl _) hb_);have HS4q7:=Lh_ ((HS4we.out).next (Nat.le_refl _) hb_);obtain ⟨l5,hl_⟩:∃ z,putA l4 kDevname (nodeV d)=z:=⟨_,rfl⟩;rw [hl_] at hs_ ⊢;have HL5:=Lh_ (show putAll [(kDevpath,so),(kSubsystem,d.sub),(kDriver,d.drv),(kModalias,d.ali),(kDevname,(nodeV d))]=l5 from (put_next (ps:=[(kDevpath,so),(kSubsystem,d.sub),(kDriver,d.drv),(kModalias,d.ali)]) HL4.out (by simp;decide +kernel)).trans hl_);have HS5:=Lh_ hs_;clear hs_ hl_;clear hb_;refine hK.out _ _ aq7.out (fun _=>?_);clear hK K;try simp only [Act.put,sA_,sB_,sC_]
   refine rd1 5 (o:=⟨some 48,.call ⟨_,_,_⟩,_,_,_,_⟩) rfl (fun K hK=>?_);go_simp;go_at_call 48;refine (Itoa_any d.num _ (HOK.out.below HBq7.out) HOd.out.2.2.2.2.2.2.2.2).mono ?_;rintro e' q8 ⟨rfl,hb_⟩;have HBq8:=tb_ HBq7 hb_;have tq8:=kb_ tq7 hb_;have aq8:=kb_ aq7 hb_;have HS1q8:=Lh_ ((HS1q7.out).next (Nat.le_refl _) hb_);have HS2q8:=Lh_ ((HS2q7.out).next (Nat.le_refl _) hb_);have HS3q8:=Lh_ ((HS3q7.out).next (Nat.le_refl _) hb_);have HS4q8:=Lh_ ((HS4q7.out).next (Nat.le_refl _) hb_);have HS5q8:=Lh_ ((HS5.out).next (Nat.le_refl _) hb_);clear hb_;refine hK.out _ _ aq8.out (fun _=>?_);clear hK K;try simp only [Act.put,sA_,sB_,sC_]
   refine rd1 6 (o:=⟨some 49,.call ⟨_,_,_⟩,_,_,_,_⟩) rfl (fun K hK=>?_);go_simp;go_at_call 46;refine (Put_any A5_ c5_ l5 kNumber (itoaT d.num) _ q8.heap.size (Nat.le_refl _) HS5q8.out (put_srt HL5.out) (put_len HL5.out (by simp)) (by decide) (itoaT_small HOd.out.2.2.2.2.2.2.2.2)).mono ?_;rintro e' q9 ⟨hb_,A6_,c6_,rfl,hs_⟩;have HBq9:=tb_ HBq8 hb_;have tq9:=kb_ tq8 hb_;have aq9:=kb_ aq8 hb_;have HS1q9:=Lh_ ((HS1q8.out).next (Nat.le_refl _) hb_);have HS2q9:=Lh_ ((HS2q8.out).next (Nat.le_refl _) hb_);have HS3q9:=Lh_ ((HS3q8.out).next (Nat.le_refl _) hb_);have HS4q9:=Lh_ ((HS4q8.out).next (Nat.le_refl _) hb_);have HS5q9:=Lh_ ((HS5q8.out).next (Nat.le_refl _) hb_);obtain ⟨l6,hl_⟩:∃ z,putA l5 kNumber (itoaT d.num)=z:=⟨_,rfl⟩;rw [hl_] at hs_ ⊢;have HL6:=Lh_ (show putAll [(kDevpath,so),(kSubsystem,d.sub),(kDriver,d.drv),(kModalias,d.ali),(kDevname,(nodeV d)),(kNumber,(itoaT d.num))]=l6 from (put_next (ps:=[(kDevpath,so),(kSubsystem,d.sub),(kDriver,d.drv),(kModalias,d.ali),(kDevname,(nodeV d))]) HL5.out (by simp;decide +kernel)).trans hl_);have HS6:=Lh_ hs_;clear hs_ hl_;clear hb_;refine hK.out _ _ aq9.out (fun _=>?_);clear hK K;try simp only [Act.put,sA_,sB_,sC_]
   refine tk1 7 9 (.slice A6_ l6.length c6_) rfl (fun w' hS=>by go_simp) aq9.out ?_;try simp only [Act.put,sA_,sB_,sC_]
   refine wpAnyH_done (by kernel_rfl) ?_ _;have ct0:=tq9.out.1 0 _ rfl;obtain ⟨ca0,ca1,ca2,ca3,ca4,ca5,ca6,ca7,ca8,ca9⟩:=s10_ aq9.out.1;by_cases hk:d.kind=4
   ·
    have HK:=Lh_ hk;have hkb:(d.kind == 4)=true:=by rw [hk];rfl
    go_wp2_with fail;refine (Put_any A6_ c6_ l6 kInterface d.orig _ q9.heap.size (Nat.le_refl _) HS6.out (put_srt HL6.out) (put_len HL6.out (by simp)) (by decide) HOd.out.2.2.2.1).mono ?_;rintro e w10 ⟨hbw10,A7_,c7_,rfl,hs_⟩;clear ct0 ca0 ca1 ca2 ca3 ca4 ca5 ca6 ca7 ca8 ca9;have HBw10:=tb_ HBq9 hbw10;have tw10:=kb_ tq9 hbw10;have aw10:=kb_ aq9 hbw10;have HS1w10:=Lh_ ((HS1q9.out).next (Nat.le_refl _) hbw10);have HS2w10:=Lh_ ((HS2q9.out).next (Nat.le_refl _) hbw10);have HS3w10:=Lh_ ((HS3q9.out).next (Nat.le_refl _) hbw10);have HS4w10:=Lh_ ((HS4q9.out).next (Nat.le_refl _) hbw10);have HS5w10:=Lh_ ((HS5q9.out).next (Nat.le_refl _) hbw10);have HS6w10:=Lh_ ((HS6.out).next (Nat.le_refl _) hbw10);clear hbw10;have ct0:=tw10.out.1 0 _ rfl;obtain ⟨ca0,ca1,ca2,ca3,ca4,ca5,ca6,ca7,ca8,ca9⟩:=s10_ aw10.out.1;obtain ⟨l7,hl_⟩:∃ z,putA l6 kInterface d.orig=z:=⟨_,rfl⟩;rw [hl_] at hs_ ⊢;have HL7:=Lh_ (show putAll [(kDevpath,so),(kSubsystem,d.sub),(kDriver,d.drv),(kModalias,d.ali),(kDevname,(nodeV d)),(kNumber,(itoaT d.num)),(kInterface,d.orig)]=l7 from (put_next (ps:=[(kDevpath,so),(kSubsystem,d.sub),(kDriver,d.drv),(kModalias,d.ali),(kDevname,(nodeV d)),(kNumber,(itoaT d.num))]) HL6.out (by simp;decide +kernel)).trans hl_);have HS7:=Lh_ hs_;clear hs_ hl_;have HE:=Lh_ (show baseL L n=l7 from by rw [HBE.out,← HL7.out];unfold baseP;rw [if_pos HND.out,if_pos HK.out];rfl);go_wp2;go_ret;exact ⟨HBw10.out,A7_,c7_,by rw [HE.out];rfl,by rw [HE.out];exact HS7.out⟩
   ·
    have HK:=Lh_ hk;have hkb:(d.kind == 4)=false:=by simpa using hk
    have HE:=Lh_ (show baseL L n=l6 from by rw [HBE.out,← HL6.out];unfold baseP;rw [if_pos HND.out,if_neg HK.out];rfl);go_wp2;go_ret;exact ⟨HBq9.out,A6_,c6_,by rw [HE.out];rfl,by rw [HE.out];exact HS6.out⟩
end Go.Proofs.YtjgllhlilbchpaaGreatDoor
namespace Go.Cold
open Go Go.RowKit Go.Proofs.YtjgllhlilbchpaaGreatDoor
theorem below_onto {a w w':World} (h:Below a.heap.size a w) (hb:Below w.heap.size w w'):Below a.heap.size a w':=h.trans (hb.mono h.size)
theorem path_none {L:List Dev} {n:Int} (h:(findD L n).isSome=false):pathL L n=[]:=by
  unfold pathL;cases hf:findD L n with
  | none=>rfl
  | some d=>rw [hf] at h;cases h
theorem path_some {L:List Dev} {n:Int} (h:(findD L n).isSome=true):pathL L n=pathA (cutT (rpT (chainO L n))):=by
  unfold pathL;cases hf:findD L n with
  | none=>rw [hf] at h;cases h
  | some d=>rfl
theorem find_is {L:List Dev} {n:Int} {d:Dev} (hq:(findD L n).isSome=true) (hd:d=(findD L n).getD zeroD):findD L n=some d:=by
  cases hf:findD L n with
  | none=>rw [hf] at hq;cases hq
  | some e=>rw [hf] at hd;rw [show d=e from hd]
theorem chain_head {L:List Dev} {n:Int} {d:Dev} (h:findD L n=some d):∃ r,chainO L n=d :: r:=by
  unfold chainO;have:0<L.length:=List.length_pos_of_mem (find_some h).1;obtain ⟨k,hk⟩:∃ k,L.length=k+1:=⟨L.length - 1,by omega⟩;rw [hk,chainL,h];exact ⟨_,rfl⟩
theorem chain_rp {L:List Dev} {n:Int} {d:Dev} (h:findD L n=some d):rpT (chainO L n)=preT ((chainO L n).drop 1) ++ partT d:=by
  obtain ⟨r,hr⟩:=chain_head h;rw [hr];rfl
theorem part_size {d:Dev}:(partT d).size=d.sub.size+1+d.orig.size:=by
  unfold partT;rw [ByteArray.size_append,ByteArray.size_append];rfl
theorem own_lit {w w':World} {T:TypeId} {l:List Attr} {cs:Array Value} (h:w.alloc (.cells cs T)=w') (hc:cs.toList=rowA l) (hn:l.length≤maxLen) (hs:∀ a ∈ l,a.name.size≤maxLen∧a.value.size≤maxLen):OwnsS (fun _=>False) w' w.heap.size T (.slice (some ⟨w.heap.size,0,none⟩) l.length l.length) l:=by
  have hz:cs.size=l.length * 2:=by rw [← Array.length_toList,hc,rowA_len]
  have h1:=World.ownsRow_lit (base:=w.heap.size) (e:=T) (size:=2) w cs l.length (Nat.le_refl _) hn hz;rw [h] at h1;exact own_attrs (by rw [← hc];exact h1) hs
theorem pathA_small {s:ByteArray} (h:s.size≤256):∀ a ∈ pathA s,a.name.size≤maxLen∧a.value.size≤maxLen:=by
  intro a ha;unfold pathA at ha;simp only [List.mem_cons,List.not_mem_nil,or_false] at ha;have ht:(tagT s).size=s.size:=by
    unfold tagT;show (List.map _ _).toArray.size=_
    rw [List.size_toArray,List.length_map,ba_size]
  rcases ha with rfl | rfl
  · exact ⟨by show kIdPath.size≤maxLen;decide,by show s.size≤maxLen;unfold maxLen;omega⟩
  · exact ⟨by show kIdTag.size≤maxLen;decide,by show (tagT s).size≤maxLen;rw [ht];unfold maxLen;omega⟩
theorem pre_pos {r:List Dev} {j:Nat} {y:Dev} (h:r[j]? = some y) (x:ByteArray):preT (r.drop j) ++ x=preT (r.drop (j+1)) ++ ((partT y ++ ⟨#[45]⟩) ++ x):=by
  obtain ⟨h1,h2⟩:=List.getElem?_eq_some_iff.1 h;rw [pre_step h1,h2]
end Go.Cold
namespace Go.Proofs.YtjgllhlilbchpaaGreatDoor
open Go.RowKit Go.Cold
theorem tag1_any (r:Int) (w:World):Calls Tryz.prog 43 #[.int .i32 r] w fun e w'=>e=.returned (.int .i32 (tagR r))∧w'=w:=by
  obtain ⟨z,hz⟩:∃ z,tagR r=z:=⟨_,rfl⟩;rw [hz];have HZ:=Lh_ hz;clear hz;go_enter Tryz.func43,Tryz.ntmps43;by_cases a0:(65:Int)≤r
  ·
    by_cases b0:r≤90
    ·
      obtain rfl:z=r:=by rw [← HZ.out];unfold tagR;exact if_pos (by omega)
      clear HZ;go_wp2;go_ret;exact ⟨by try rfl,by try rfl⟩
    ·
      by_cases a1:(97:Int)≤r
      ·
        by_cases b1:r≤122
        ·
          obtain rfl:z=r:=by rw [← HZ.out];unfold tagR;exact if_pos (by omega)
          clear HZ;go_wp2;go_ret;exact ⟨by try rfl,by try rfl⟩
        ·
          by_cases a2:(48:Int)≤r
          ·
            by_cases b2:r≤57
            ·
              obtain rfl:z=r:=by rw [← HZ.out];unfold tagR;exact if_pos (by omega)
              clear HZ;go_wp2;go_ret;exact ⟨by try rfl,by try rfl⟩
            ·
              obtain rfl:z=95:=by rw [← HZ.out];unfold tagR;exact if_neg (by omega)
              clear HZ;go_wp2;go_ret;exact ⟨by try rfl,by try rfl⟩
          ·
            obtain rfl:z=95:=by rw [← HZ.out];unfold tagR;exact if_neg (by omega)
            clear HZ;go_wp2;go_ret;exact ⟨by try rfl,by try rfl⟩
      ·
        by_cases a2:(48:Int)≤r
        ·
          by_cases b2:r≤57
          ·
            obtain rfl:z=r:=by rw [← HZ.out];unfold tagR;exact if_pos (by omega)
            clear HZ;go_wp2;go_ret;exact ⟨by try rfl,by try rfl⟩
          ·
            obtain rfl:z=95:=by rw [← HZ.out];unfold tagR;exact if_neg (by omega)
            clear HZ;go_wp2;go_ret;exact ⟨by try rfl,by try rfl⟩
        ·
          obtain rfl:z=95:=by rw [← HZ.out];unfold tagR;exact if_neg (by omega)
          clear HZ;go_wp2;go_ret;exact ⟨by try rfl,by try rfl⟩
  ·
    by_cases a1:(97:Int)≤r
    ·
      by_cases b1:r≤122
      ·
        obtain rfl:z=r:=by rw [← HZ.out];unfold tagR;exact if_pos (by omega)
        clear HZ;go_wp2;go_ret;exact ⟨by try rfl,by try rfl⟩
      ·
        by_cases a2:(48:Int)≤r
        ·
          by_cases b2:r≤57
          ·
            obtain rfl:z=r:=by rw [← HZ.out];unfold tagR;exact if_pos (by omega)
            clear HZ;go_wp2;go_ret;exact ⟨by try rfl,by try rfl⟩
          ·
            obtain rfl:z=95:=by rw [← HZ.out];unfold tagR;exact if_neg (by omega)
            clear HZ;go_wp2;go_ret;exact ⟨by try rfl,by try rfl⟩
        ·
          obtain rfl:z=95:=by rw [← HZ.out];unfold tagR;exact if_neg (by omega)
          clear HZ;go_wp2;go_ret;exact ⟨by try rfl,by try rfl⟩
    ·
      by_cases a2:(48:Int)≤r
      ·
        by_cases b2:r≤57
        ·
          obtain rfl:z=r:=by rw [← HZ.out];unfold tagR;exact if_pos (by omega)
          clear HZ;go_wp2;go_ret;exact ⟨by try rfl,by try rfl⟩
        ·
          obtain rfl:z=95:=by rw [← HZ.out];unfold tagR;exact if_neg (by omega)
          clear HZ;go_wp2;go_ret;exact ⟨by try rfl,by try rfl⟩
      ·
        obtain rfl:z=95:=by rw [← HZ.out];unfold tagR;exact if_neg (by omega)
        clear HZ;go_wp2;go_ret;exact ⟨by try rfl,by try rfl⟩
theorem tag1_runes (w:World):MapAtRunes Tryz.prog 43 #[] tagR w:=fun W x _ _=>(tag1_any (x:Int) W).mono (by rintro e w' ⟨rfl,rfl⟩;exact ⟨rfl,0,rfl⟩)
def OkU (w:World):Prop:=Lib.Utf8Tabs 1 2 w
theorem OkU.below {w w':World} (h:OkU w) (hb:Below w.heap.size w w'):OkU w' :=
  ⟨fun c hc=>(hb.cell (p:=⟨1,c,none⟩) (block_lt_of_cell (h.1 c hc))).trans (h.1 c hc),
   fun i hi=>⟨(hb.cell (p:=⟨2,2 * i,none⟩) (block_lt_of_cell (h.2 i hi).1)).trans (h.2 i hi).1,(hb.cell (p:=⟨2,2 * i+1,none⟩) (block_lt_of_cell (h.2 i hi).2)).trans (h.2 i hi).2⟩⟩
set_option maxRecDepth 100000 in
set_option maxHeartbeats 4000000 in
theorem BPath_any (A:Option Addr) (c:Nat) (L:List Dev) (n:Int) (w:World) (B:Nat) (hB:B≤w.heap.size) (hx:Sl w B A c L) (hv:VT L) (hok:Ok7 w) (hn:okI n) (hu:OkU w) :
    Calls Tryz.prog 12 #[.agg #[.slice A L.length c],.int .i64 n] w (SlPost (pathL L n) w):=by
  have hx1:=hx.1;have hx2:=hx.2.1;unfold maxLen at hx2;have HX:=Lh_ hx;have HB:=Lh_ hB;have HV:=Lh_ hv;have HOK:=Lh_ hok;clear hx hB hv hok;have HN:=Lh_ hn;have HU:=Lh_ hu;clear hn hu;have HLA:=Lh_ (show ∀ d ∈ L,d.attrs.length≤1000000 from fun d hd=>attrs_le (HV.out.chk d hd));go_enter Tryz.func12,Tryz.ntmps12;go_upto_region 1 with fail
  obtain ⟨w1,hw1,hbw1,HGw1,HXtw1⟩:=bx_ w [.slice A L.length c] 28;try simp only [hw1]
  have HBw1:=Lh_ hbw1;clear hw1 hbw1;try rw [← HGw1.out]
  have ct0:=HXtw1.out.1 0 _ rfl;obtain ⟨q,hq⟩:∃ z,(findD L n).isSome=z:=⟨_,rfl⟩;have HQ:=Lh_ hq;clear hq;go_wp2_with fail;refine (TFind_any A c L n _ B (Nat.le_trans HB.out HBw1.out.size) (HX.out.keep (HBw1.out.mono HB.out)) HLA.out).mono ?_;rintro e w2 ⟨hbw2,d,A3,c3,hd,rfl,hod,hsd⟩;clear ct0;have HBw2:=tb_ HBw1 hbw2;have tw2:=kb_ HXtw1 hbw2;clear hbw2;have ct0:=tw2.out.1 0 _ rfl;rw [show (L.find? (byIdx n)).isSome=q from HQ.out];have Hd:=Lh_ (show d=(findD L n).getD zeroD from hd);have HOd:=Lh_ hod;clear hd hod hsd;go_upto_region 2 with fail
  obtain ⟨w3,hw3,hbw3,HGw3,HXaw3⟩:=bx_ w2 [.int .i64 d.idx,.int .i64 d.par,.string d.nm,.string d.orig,.string d.sub,.string d.drv,.string d.ali,.int .i64 d.kind,.int .i64 d.num,.slice A3 d.attrs.length c3] 32;try simp only [hw3]
  have HBw3:=tb_ HBw2 hbw3;have tw3:=kb_ tw2 hbw3;clear hw3 hbw3;try rw [← HGw3.out]
  clear ct0;have ct0:=tw3.out.1 0 _ rfl;obtain ⟨ca0,ca1,ca2,ca3,ca4,ca5,ca6,ca7,ca8,ca9⟩:=s10_ HXaw3.out.1;cases q
  ·
    have HE:=Lh_ (path_none HQ.out);go_wp2;go_ret;exact ⟨HBw3.out,none,0,by rw [HE.out];rfl,by rw [HE.out];exact Sl.nil_⟩
  ·
    have HF:=Lh_ (find_is HQ.out Hd.out);have HE:=Lh_ (path_some HQ.out);have HRP:=Lh_ (chain_rp HF.out);have HGD:=Lh_ (rp_print (chain_chk HV.out n) (chain_full HV.out HF.out));have HCL:=Lh_ (show (chainO L n).length≤256 from Nat.le_trans (chain_len L _ n) HV.out.size);have HPC:=Lh_ (show ∀ y ∈ (chainO L n).drop 1,(partT y).size≤65 from fun y hy=>(part_print (chain_chk HV.out n y (List.mem_of_mem_drop hy))).2.2);have HPD:=Lh_ (show (partT d).size≤65 from (part_print (HV.out.chk d (find_some HF.out).1)).2.2);go_wp2_with fail;refine (part_any d A3 c3 _ (by have:=HPD.out;rw [part_size] at this;omega) (by have:=HPD.out;rw [part_size] at this;omega)).mono ?_;rintro e w4 ⟨rfl,hbw4⟩;clear ct0 ca0 ca1 ca2 ca3 ca4 ca5 ca6 ca7 ca8 ca9;have HBw4:=tb_ HBw3 hbw4;have tw4:=kb_ tw3 hbw4;have aw4:=kb_ HXaw3 hbw4;clear hbw4;have ct0:=tw4.out.1 0 _ rfl;obtain ⟨ca0,ca1,ca2,ca3,ca4,ca5,ca6,ca7,ca8,ca9⟩:=s10_ aw4.out.1;obtain ⟨s0,hs0⟩:∃ z,partT d=z:=⟨_,rfl⟩;rw [hs0];have HRP2:=Lh_ (show rpT (chainO L n)=preT ((chainO L n).drop 1) ++ s0 by rw [← hs0];exact HRP.out);clear hs0 HRP;obtain ⟨ch,hch⟩:∃ z,(chainO L n).drop 1=z:=⟨_,rfl⟩;obtain ⟨full,hfull⟩:∃ z,rpT (chainO L n)=z:=⟨_,rfl⟩;have HRP3:=Lh_ (show full=preT ch ++ s0 by rw [← hfull,← hch];exact HRP2.out);have HPC2:=Lh_ (show ∀ y ∈ ch,(partT y).size≤65 by rw [← hch];exact HPC.out);have HE2:=Lh_ (show pathL L n=pathA (cutT full) by rw [← hfull];exact HE.out);have HGD2:=Lh_ (show printB full=true∧full.toList.isEmpty=false∧full.size≤256 * 66 by have:=HGD.out;rw [hfull] at this;exact ⟨this.1,this.2.1,Nat.le_trans this.2.2 (Nat.mul_le_mul_right _ HCL.out)⟩);have HCH:=Lh_ hch;clear hch hfull HRP2 HPC HE HGD HPD HF Hd HOd;go_wp2_with fail;refine (Ancestors_any A c L n _ B (Nat.le_trans HB.out HBw4.out.size) (HX.out.keep (HBw4.out.mono HB.out)) HV.out HN.out).mono ?_;rintro e w20 ⟨hb_,v,rfl,hown_⟩;rw [HCH.out] at hown_;obtain ⟨A5,c5,rfl,hs_⟩:=hown_.sl;have hs1:=hs_.1;have hs2:=hs_.2.1;unfold maxLen at hs2;clear ct0 ca0 ca1 ca2 ca3 ca4 ca5 ca6 ca7 ca8 ca9;have HBw20:=tb_ HBw4 hb_;have tw20:=kb_ tw4 hb_;have aw20:=kb_ aw4 hb_;have HSL:=Lh_ hs_;clear hs_ hown_ hb_;go_wp2_with fail;have HI0:=Lh_ (show full=preT (ch.drop 0) ++ s0 by rw [List.drop_zero];exact HRP3.out)
    go_loopw [7,25] (fun v i wr=>∃ (s:ByteArray) (k:Nat),k≤ch.length∧v=.string s∧i=.int .i64 (k:Int)∧Hid (Below w20.heap.size w20 wr)∧Hid (full=preT (ch.drop k) ++ s)) (fun _ i _=>ch.length - (intOf i).toNat)
    case atStart=>exact ⟨_,0,Nat.zero_le _,rfl,rfl,Below.refl _ _,HI0⟩
    case round =>
      clear HI0;obtain ⟨s,k,hk,rfl,rfl,HBR,HA⟩:=hrel;have HBwr:=Lh_ (HBw20.out.trans (HBR.out.mono HBw20.out.size));have HSS:=Lh_ (show s.size≤16896 by have h:=HGD2.out.2.2;rw [HA.out,ByteArray.size_append] at h;omega);by_cases hlt:k<ch.length
      ·
        have i1:(k:Int)<(ch.length:Int):=by omega
        obtain ⟨b,o,rfl,-,A6,c6,-,-,hcs⟩:=(HSL.out.next (Nat.le_refl _) HBR.out).dev hlt;have hky:ch[k]? = some ch[k]:=List.getElem?_eq_getElem hlt;have hpy:=HPC2.out _ (List.getElem_mem hlt);obtain ⟨y,hy⟩:∃ y,ch[k]'hlt=y:=⟨_,rfl⟩;rw [hy] at hcs hky hpy;obtain ⟨a0,a1,a2,a3,a4,a5,a6,a7,a8,a9⟩:=hcs;have HLT:=Lh_ hlt;have HKY:=Lh_ hky;have HPY:=Lh_ hpy;clear hy hky hpy;go_upto_region 8 with fail
        obtain ⟨w5,hw5,hbw5,HGw5,HXvw5⟩:=bx_ wr [.int .i64 y.idx,.int .i64 y.par,.string y.nm,.string y.orig,.string y.sub,.string y.drv,.string y.ali,.int .i64 y.kind,.int .i64 y.num,.slice A6 y.attrs.length c6] 32;try simp only [hw5]
        have HBw5:=tb_ HBwr hbw5;have HBRw5:=Lh_ (below_onto HBR.out hbw5);clear hw5 hbw5;try rw [← HGw5.out]
        clear a0 a1 a2 a3 a4 a5 a6 a7 a8 a9;obtain ⟨cv0,cv1,cv2,cv3,cv4,cv5,cv6,cv7,cv8,cv9⟩:=s10_ HXvw5.out.1;go_wp2_with fail;refine (part_any y A6 c6 _ (by have:=HPY.out;rw [part_size] at this;omega) (by have:=HPY.out;rw [part_size] at this;omega)).mono ?_;rintro e w6 ⟨rfl,hbw6⟩;clear cv0 cv1 cv2 cv3 cv4 cv5 cv6 cv7 cv8 cv9;have HBw6:=tb_ HBw5 hbw6;have vw6:=kb_ HXvw5 hbw6;have HBRw6:=Lh_ (below_onto HBRw5.out hbw6);clear hbw6;have HSTEP:=Lh_ (pre_pos HKY.out s);obtain ⟨p,hp⟩:∃ z,partT y=z:=⟨_,rfl⟩;have HPZ:=Lh_ hp;rw [hp];have f0:p.size≤65:=by rw [← hp];exact HPY.out
        have f9:=HSS.out;have f1:¬ 9223372036854775807<p.size+1:=by omega
        have f2:¬ 9223372036854775807<p.size+1+s.size:=by omega
        have HNX:=Lh_ (show full=preT (ch.drop (k+1)) ++ ((p ++ ⟨#[45]⟩) ++ s) by rw [HA.out,HSTEP.out,HPZ.out]);clear hp f0 f9;go_wp2;go_roundw
        case rel=>exact ⟨_,k+1,by have:=HLT.out;omega,rfl,by go_num,HBRw6,HNX⟩
        case measure=>have:=HLT.out;simp [intOf];omega
      ·
        have i1:¬ (k:Int)<(ch.length:Int):=by omega
        have hfs:full=s:=by rw [HA.out,show k=ch.length by omega,List.drop_length,preT,app_empty]
        have HFS:=Lh_ hfs;clear hfs;have hmin:min (s.size:Int) 256=((min s.size 256:Nat):Int):=by omega
        go_upto_region 11 with fail
        obtain ⟨t,ht⟩:∃ z,s.extract 0 (min s.size 256)=z:=⟨_,rfl⟩;try rw [ht]
        have HT:=Lh_ (show cutT full=t by rw [HFS.out];exact ht);have HTX:=Lh_ (show textB t=true by rw [← HT.out];exact (cut_text HGD2.out.1 HGD2.out.2.1).1);have HTS:=Lh_ (show t.size≤256 by rw [← HT.out,cut_size];omega);clear ht hmin;go_wp2_with fail;refine (Tryz.strings_Map_runes 43 #[] (enters_of Tryz.func43 (by kernel_rfl) rfl) tagR t _ (by have:=HTS.out;omega) (tag1_runes _) tagR_range (HU.out.below HBwr.out)).mono ?_;rintro e w7 ⟨rfl,hbw7⟩;have HBw7:=tb_ HBwr hbw7;have HBRw7:=Lh_ (below_onto HBR.out hbw7);clear hbw7;rw [map_tag HTX.out];obtain ⟨wz,hwz⟩:∃ z,w7.alloc (.cells #[.string kIdPath,.string t,.string kIdTag,.string (tagT t)] 42)=z:=⟨_,rfl⟩;have HOWN:=Lh_ (own_lit (l:=pathA t) hwz rfl (by show 2≤maxLen;decide) (pathA_small HTS.out));have HBZ:=Lh_ (show Below w7.heap.size w7 wz by rw [← hwz];exact (Below.refl _ _).alloc (Nat.le_refl _) _);have HE3:=Lh_ (show pathL L n=pathA t by rw [HE2.out,HT.out]);go_wp2;simp only [show (⟨#[73,68,95,80,65,84,72]⟩:ByteArray)=kIdPath from rfl,show (⟨#[73,68,95,80,65,84,72,95,84,65,71]⟩:ByteArray)=kIdTag from rfl,hwz];go_ret;rw [HE3.out];exact SlPost.of_own (HBw7.out.trans (HBZ.out.mono HBw7.out.size)) rfl (HOWN.out.low HBw7.out.size)
end Go.Proofs.YtjgllhlilbchpaaGreatDoor
namespace Go.Cold
open Go Go.RowKit Go.Proofs.YtjgllhlilbchpaaGreatDoor
def RpR (ch:List Dev) (s:ByteArray) (k:Nat):Prop:=(k=0∧s=rpT ch)∨(0<k∧s=preT (ch.drop k))
theorem chain_zero {L:List Dev} {n:Int} (h:(chainO L n).length=0):pathL L n=[]:=by
 cases hf:findD L n with
 | none=>unfold pathL;rw [hf]
 | some d=>obtain ⟨r,hr⟩:=chain_head hf;rw [hr] at h;simp at h
theorem chain_pos {L:List Dev} {n:Int} (h:¬ (chainO L n).length=0):∃ d,findD L n=some d:=by
 cases hf:findD L n with
 | none=>exact absurd (by unfold chainO;cases hL:L.length with | zero=>rfl | succ k=>rw [chainL,hf];rfl) h
 | some d=>exact ⟨d,rfl⟩
theorem pre_ends {ch:List Dev} {s:ByteArray} {k:Nat} {y:Dev} (hy:ch[k]? = some y) (h:RpR ch s (k+1)):RpR ch (if k=0 then s ++ partT y else (s ++ partT y) ++ ⟨#[45]⟩) k:=by
 obtain ⟨h1,h2⟩:=List.getElem?_eq_some_iff.1 hy;have hs:s=preT (ch.drop (k+1)):=by
  rcases h with ⟨h3,-⟩ | ⟨-,h3⟩
  · omega
  · exact h3
 by_cases h0:k=0
 ·
  subst h0
  rw [if_pos rfl];exact .inl ⟨rfl,by rw [rp_zero h1,h2,hs]⟩
 ·
  rw [if_neg h0]
  exact .inr ⟨by omega,by rw [pre_drop h1,h2,hs]⟩
def tagK (l:List UInt8) (k:Nat):List UInt8:=((l.take k).map fun x=>if alnumB x then x else 95) ++ l.drop k
theorem tagK_zero (l:List UInt8):tagK l 0=l:=by unfold tagK;simp
theorem tagK_length (l:List UInt8) (k:Nat):(tagK l k).length=l.length:=by unfold tagK;rw [List.length_append,List.length_map,List.length_take,List.length_drop];omega
theorem tagK_at {l:List UInt8} {k:Nat} {x:UInt8} (h:l[k]? = some x):(tagK l k)[k]? = some x:=by
 have hk:=(List.getElem?_eq_some_iff.1 h).1;unfold tagK;rw [List.getElem?_append_right (by rw [List.length_map,List.length_take];omega),List.length_map,List.length_take,List.getElem?_drop,show k+(k - min k l.length)=k by omega,h]
theorem tagK_succ {l:List UInt8} {k:Nat} {x:UInt8} (h:l[k]? = some x):tagK l (k+1)=(tagK l k).set k (if alnumB x then x else 95):=by
 have hk:=(List.getElem?_eq_some_iff.1 h).1;unfold tagK;rw [List.take_add_one,h,Option.toList_some,List.map_append,List.map_singleton,List.set_append_right _ _ (by rw [List.length_map,List.length_take];omega),List.length_map,List.length_take,show k - min k l.length=0 by omega,List.append_assoc,List.drop_eq_getElem_cons hk,List.set_cons_zero];rfl
theorem tagK_same {l:List UInt8} {k:Nat} {x:UInt8} (h:l[k]? = some x) (ha:alnumB x=true):tagK l (k+1)=tagK l k:=by
 rw [tagK_succ h,if_pos ha];have h1:=tagK_at h;obtain ⟨h2,h3⟩:=List.getElem?_eq_some_iff.1 h1;rw [← h3,List.set_getElem_self]
theorem tagK_all {l:List UInt8} {k:Nat} (h:l.length≤k):tagK l k=l.map fun x=>if alnumB x then x else 95:=by
 unfold tagK;rw [List.take_of_length_le h,List.drop_of_length_le h,List.append_nil]
def alnL:List UInt8:=[65,66,67,68,69,70,71,72,73,74,75,76,77,78,79,80,81,82,83,84,85,86,87,88,89,90,97,98,99,100,101,102,103,104,105,106,107,108,109,110,111,112,113,114,115,116,117,118,119,120,121,122,48,49,50,51,52,53,54,55,56,57]
theorem alnL_iff (x:UInt8):alnumB x=true↔¬ Lib.indexByte alnL x<0:=by
 have h:=Lib.contains_iff_indexByte alnL x;have h2:alnumB x=alnL.contains x:=by
  have hall:∀ n:Fin 256,alnumB (UInt8.ofNat n.val)=alnL.contains (UInt8.ofNat n.val):=by decide +kernel
  have:=hall ⟨x.toNat,UInt8.toNat_lt x⟩;simpa using this
 rw [h2,h];simp
end Go.Cold
namespace Go.Proofs.YtjgllhlilbchpaaGreatDoor
open Go.RowKit Go.Cold
theorem Cut_any (s:ByteArray) (w:World) (hs:s.size≤maxLen):Calls Tryz.prog 62 #[.string s] w fun e w'=>e=.returned (.string (cutT s))∧w'=w:=by
 have hs2:=hs;unfold maxLen at hs2;clear hs;go_enter Tryz.func62,Tryz.ntmps62;by_cases h:s.size≤256
 ·
  have i1:¬ (256:Int)<(s.size:Int):=by omega
  have HC:=Lh_ (cut_small h);clear h;go_wp2;go_ret;exact ⟨by rw [HC.out];try rfl,by try rfl⟩
 ·
  have i1:(256:Int)<(s.size:Int):=by omega
  have HC:=Lh_ (show cutT s=s.extract 0 256 by unfold cutT;rw [show min s.size 256=256 by omega]);have h2:256≤s.size:=by omega
  go_wp2;go_ret;exact ⟨by rw [HC.out];try rfl,by try rfl⟩
set_option maxRecDepth 100000 in
set_option maxHeartbeats 4000000 in
theorem RBPath_any (A:Option Addr) (c:Nat) (L:List Dev) (n:Int) (w:World) (B:Nat) (hB:B≤w.heap.size) (hx:Sl w B A c L) (hv:VT L) (hok:Ok7 w) (hn:okI n) :
  Calls Tryz.prog 28 #[.agg #[.slice A L.length c],.int .i64 n] w (SlPost (pathL L n) w):=by
 have hx1:=hx.1;have hx2:=hx.2.1;unfold maxLen at hx2;have HX:=Lh_ hx;have HB:=Lh_ hB;have HV:=Lh_ hv;have HOK:=Lh_ hok;clear hx hB hv hok;have HN:=Lh_ hn;clear hn;have HLA:=Lh_ (show ∀ d ∈ L,d.attrs.length≤1000000 from fun d hd=>attrs_le (HV.out.chk d hd));go_enter Tryz.func28,Tryz.ntmps28;go_upto_region 1 with fail
 obtain ⟨w1,hw1,hbw1,HGw1,HXtw1⟩:=bx_ w [.slice A L.length c] 28;try simp only [hw1]
 have HBw1:=Lh_ hbw1;clear hw1 hbw1;try rw [← HGw1.out]
 have ct0:=HXtw1.out.1 0 _ rfl;go_wp2_with fail;refine (RChain_any A c L n _ B (Nat.le_trans HB.out HBw1.out.size) (HX.out.keep (HBw1.out.mono HB.out)) (by have:=HV.out.size;omega) HN.out).mono ?_;rintro e w2 ⟨hbw2,v,rfl,hown⟩;clear ct0;have HBw2:=tb_ HBw1 hbw2;have tw2:=kb_ HXtw1 hbw2;clear hbw2;have HCL:=Lh_ (show (chainO L n).length≤256 from Nat.le_trans (chain_len L _ n) HV.out.size);have HPC:=Lh_ (show ∀ y ∈ chainO L n,(partT y).size≤65 from fun y hy=>(part_print (chain_chk HV.out n y hy)).2.2);have HZE:=Lh_ (show (chainO L n).length=0→pathL L n=[] from chain_zero);have HPO:=Lh_ (show ¬ (chainO L n).length=0→pathL L n=pathA (cutT (rpT (chainO L n))) from fun h=>by obtain ⟨d,hd⟩:=chain_pos h;exact path_some (by rw [hd];rfl));have HGD:=Lh_ (show ¬ (chainO L n).length=0→(rpT (chainO L n)).size≤256 * 66 from fun h=>Nat.le_trans (rp_print (chain_chk HV.out n) (fun h2=>h (by rw [h2];rfl))).2.2 (Nat.mul_le_mul_right _ HCL.out));have HPR:=Lh_ (show ∀ k,(preT ((chainO L n).drop k)).size≤256 * 66 from fun k=>Nat.le_trans (pre_print (fun d hd=>chain_chk HV.out n d (List.mem_of_mem_drop hd))).2 (Nat.mul_le_mul_right _ (Nat.le_trans (by rw [List.length_drop];omega) HCL.out)));obtain ⟨ch,hch⟩:∃ z,chainO L n=z:=⟨_,rfl⟩;rw [hch] at hown HCL HPC HZE HPO HGD HPR;obtain ⟨A5,c5,rfl,hsl⟩:=hown.sl;have hs1:=hsl.1;have hs2:=hsl.2.1;unfold maxLen at hs2;have HSL:=Lh_ hsl;clear hown hsl hch;by_cases h0:ch.length=0
 ·
  have i0:((ch.length:Int) == 0)=true:=by rw [h0];rfl
  have HE:=Lh_ (HZE.out h0);clear h0;go_wp2;go_ret;exact ⟨HBw2.out,none,0,by rw [HE.out];rfl,by rw [HE.out];exact Sl.nil_⟩
 ·
  have i0:((ch.length:Int) == 0)=false:=by simp;intro h;exact h0 (by rw [h];rfl)
  have HE:=Lh_ (HPO.out h0);have HFS:=Lh_ (HGD.out h0);have hwr0:wrap64 ((ch.length:Int) - 1)=(ch.length:Int) - 1:=by have:=HCL.out;unfold wrap64;omega
  have hwr0':IntKind.i64.wrap ((ch.length:Int) - 1)=(ch.length:Int) - 1:=by have:=HCL.out;rw [IntKind.wrap_i64];omega
  have HRL:=Lh_ (show RpR ch ByteArray.empty ch.length from .inr ⟨by omega,by rw [List.drop_length];rfl⟩);clear h0 HZE HPO HGD;go_wp2_with fail;try rw [hwr0]
  clear hwr0 hwr0';go_loopw [6,7] (fun v i wr=>∃ (s:ByteArray) (j:Int) (k:Nat),v=.string s∧i=.int .i64 j∧j+1=(k:Int)∧k≤ch.length∧Hid (RpR ch s k)∧Hid (Below w2.heap.size w2 wr)) (fun _ i _=>(intOf i+1).toNat)
  case atStart=>exact ⟨_,_,ch.length,rfl,rfl,by omega,Nat.le_refl _,HRL,Below.refl _ _⟩
  case round =>
   clear HRL;obtain ⟨s,j,k,rfl,rfl,hj,hk,HA,HBR⟩:=hrel;have HBwr:=Lh_ (HBw2.out.trans (HBR.out.mono HBw2.out.size));have HSS:=Lh_ (show s.size≤16896 by rcases HA.out with ⟨-,h⟩ | ⟨-,h⟩;rw [h];exact HFS.out;rw [h];exact HPR.out k);by_cases h0:0≤j
   ·
    obtain ⟨t,rfl⟩:=Int.eq_ofNat_of_zero_le h0;obtain rfl:k=t+1:=by omega
    have ht:t<ch.length:=by omega
    obtain ⟨b,o,rfl,-,A6,c6,-,-,hcs⟩:=(HSL.out.next (Nat.le_refl _) HBR.out).dev ht;have hxk:ch[t]? = some ch[t]:=List.getElem?_eq_getElem ht;have hpy:=HPC.out _ (List.getElem_mem ht);obtain ⟨y,hy⟩:∃ y,ch[t]'ht=y:=⟨_,rfl⟩;rw [hy] at hcs hxk hpy;have x3:=hcs.2.2.2.1;have x4:=hcs.2.2.2.2.1;have HNX:=Lh_ (pre_ends hxk HA.out);have HT:=Lh_ ht;rw [part_size] at hpy;have hss:=HSS.out;have f1:¬ 9223372036854775807<y.sub.size+1:=by omega
    have f2:¬ 9223372036854775807<y.sub.size+1+y.orig.size:=by omega
    have f3:¬ 9223372036854775807<s.size+(y.sub.size+1+y.orig.size):=by omega
    have f4:¬ 9223372036854775807<s.size+(y.sub.size+1+y.orig.size)+1:=by omega
    clear hxk hy hcs hpy hss;have HX3:=Lh_ x3;have HX4:=Lh_ x4;clear x3 x4;go_upto_region 8 with fail
    refine wp_region_held_drew (S:=fun w'=>w'.cell? ⟨b,o+t * 10+3,none⟩=some (.string y.orig)∧w'.cell? ⟨b,o+t * 10+4,none⟩=some (.string y.sub)) (by kernel_rfl) ⟨cell_nx HX3.out (below_drewN_self _ _ 1),cell_nx HX4.out (below_drewN_self _ _ 1)⟩ (fun hS0=>?_);obtain ⟨wd,hwd⟩:∃ z,World.drew wr=z:=⟨_,rfl⟩;rw [hwd] at hS0 ⊢;have hb_:Below wr.heap.size wr wd:=by rw [← hwd];exact below_drewN_self _ _ 1
    clear hwd hS0;have HBwd:=tb_ HBwr hb_;have HBRwd:=Lh_ (below_onto HBR.out hb_);have HX3wd:=Lh_ (cell_nx HX3.out hb_);have HX4wd:=Lh_ (cell_nx HX4.out hb_);clear hb_;refine tk1 0 23 (.string s) rfl (fun w' hS=>by go_simp) ⟨HX3wd.out,HX4wd.out⟩ ?_;try simp only [Act.put,sA_,sB_,sC_]
    refine tk1 1 24 (.slice (some ⟨b,o,none⟩) ch.length c5) rfl (fun w' hS=>by go_simp) ⟨HX3wd.out,HX4wd.out⟩ ?_;try simp only [Act.put,sA_,sB_,sC_]
    refine tk1 2 25 (.int .i64 t) rfl (fun w' hS=>by go_simp) ⟨HX3wd.out,HX4wd.out⟩ ?_;try simp only [Act.put,sA_,sB_,sC_]
    refine tk1 3 26 (.pointer (some ⟨b,o+t * 10,none⟩)) rfl (fun w' hS=>by go_simp) ⟨HX3wd.out,HX4wd.out⟩ ?_;try simp only [Act.put,sA_,sB_,sC_]
    refine tk1 4 27 (.pointer (some ⟨b,o+t * 10+4,none⟩)) rfl (fun w' hS=>by go_simp) ⟨HX3wd.out,HX4wd.out⟩ ?_;try simp only [Act.put,sA_,sB_,sC_]
    refine tk1 5 28 (.string y.sub) rfl (fun w' hS=>by (have u0_:=hS.2;go_simp)) ⟨HX3wd.out,HX4wd.out⟩ ?_;try simp only [Act.put,sA_,sB_,sC_]
    refine tk1 6 29 (.string (y.sub ++ ⟨#[58]⟩)) rfl (fun w' hS=>by go_simp) ⟨HX3wd.out,HX4wd.out⟩ ?_;try simp only [Act.put,sA_,sB_,sC_]
    refine tk1 7 30 (.slice (some ⟨b,o,none⟩) ch.length c5) rfl (fun w' hS=>by go_simp) ⟨HX3wd.out,HX4wd.out⟩ ?_;try simp only [Act.put,sA_,sB_,sC_]
    refine tk1 8 31 (.int .i64 t) rfl (fun w' hS=>by go_simp) ⟨HX3wd.out,HX4wd.out⟩ ?_;try simp only [Act.put,sA_,sB_,sC_]
    refine tk1 9 32 (.pointer (some ⟨b,o+t * 10,none⟩)) rfl (fun w' hS=>by go_simp) ⟨HX3wd.out,HX4wd.out⟩ ?_;try simp only [Act.put,sA_,sB_,sC_]
    refine tk1 10 33 (.pointer (some ⟨b,o+t * 10+3,none⟩)) rfl (fun w' hS=>by go_simp) ⟨HX3wd.out,HX4wd.out⟩ ?_;try simp only [Act.put,sA_,sB_,sC_]
    refine tk1 11 34 (.string y.orig) rfl (fun w' hS=>by (have u0_:=hS.1;go_simp)) ⟨HX3wd.out,HX4wd.out⟩ ?_;try simp only [Act.put,sA_,sB_,sC_]
    refine tk1 12 35 (.string (partT y)) rfl (fun w' hS=>by (go_simp;try rfl)) ⟨HX3wd.out,HX4wd.out⟩ ?_;try simp only [Act.put,sA_,sB_,sC_]
    have f5:¬ 9223372036854775807<s.size+(partT y).size:=by rw [part_size];exact f3
    have f6:¬ 9223372036854775807<s.size+(partT y).size+1:=by rw [part_size];exact f4
    clear f1 f2 f3 f4;obtain ⟨p,hp⟩:∃ z,partT y=z:=⟨_,rfl⟩;rw [hp] at f5 f6 HNX ⊢;clear hp;refine tk1 13 36 (.string (s ++ p)) rfl (fun w' hS=>by go_simp) ⟨HX3wd.out,HX4wd.out⟩ ?_;try simp only [Act.put,sA_,sB_,sC_]
    refine tk1 14 6 (.string (s ++ p)) rfl (fun w' hS=>by go_simp) ⟨HX3wd.out,HX4wd.out⟩ ?_;try simp only [Act.put,sA_,sB_,sC_]
    refine wpAnyH_done (by kernel_rfl) ?_ _;by_cases hz:t=0
    ·
     have i2:¬ (0:Int)<(t:Int):=by omega
     have HNY:=Lh_ (show RpR ch (s ++ p) t by have:=HNX.out;rw [if_pos hz] at this;exact this);clear hz;have hwr:wrap64 ((t:Int) - 1)=(t:Int) - 1:=by have:=HCL.out;have:=HT.out;unfold wrap64;omega
     have hwr':IntKind.i64.wrap ((t:Int) - 1)=(t:Int) - 1:=by have:=HCL.out;have:=HT.out;rw [IntKind.wrap_i64];omega
     go_wp2;go_roundw
     case rel=>exact ⟨_,_,t,rfl,by first | rfl | (simp only [hwr,hwr']),by omega,by have:=HT.out;omega,HNY,HBRwd⟩
     case measure=>first | (simp [intOf];done) | (simp [intOf];omega) | (simp [intOf,hwr,hwr'];omega)
    ·
     have i2:(0:Int)<(t:Int):=by omega
     have HNY:=Lh_ (show RpR ch ((s ++ p) ++ ⟨#[45]⟩) t by have:=HNX.out;rw [if_neg hz] at this;exact this);clear hz;have hwr:wrap64 ((t:Int) - 1)=(t:Int) - 1:=by have:=HCL.out;have:=HT.out;unfold wrap64;omega
     have hwr':IntKind.i64.wrap ((t:Int) - 1)=(t:Int) - 1:=by have:=HCL.out;have:=HT.out;rw [IntKind.wrap_i64];omega
     go_wp2;go_roundw
     case rel=>exact ⟨_,_,t,rfl,by first | rfl | (simp only [hwr,hwr']),by omega,by have:=HT.out;omega,HNY,HBRwd⟩
     case measure=>first | (simp [intOf];done) | (simp [intOf];omega) | (simp [intOf,hwr,hwr'];omega)
   ·
    have hk0:k=0:=by have:=hj;omega
    have hfs:s=rpT ch:=by rcases HA.out with ⟨-,h⟩ | ⟨h,-⟩;exact h;omega
    have HF:=Lh_ hfs;clear hfs hk0;go_wp2_with fail;refine (Cut_any s _ (by have:=HSS.out;unfold maxLen;omega)).mono ?_;rintro e w9 ⟨rfl,hw_⟩;rw [hw_];clear hw_ w9;obtain ⟨t,ht⟩:∃ z,cutT s=z:=⟨_,rfl⟩;rw [ht];have HPE:=Lh_ (show pathL L n=pathA t by rw [HE.out,← HF.out,ht]);have HTS:=Lh_ (show t.size≤256 by rw [← ht,cut_size];omega);clear ht;go_wp2_with (with_reducible refine at_dst 44 ?_;go_must (refine wpList_conv_bytes rfl 9 88 5 _ rfl t rfl Tryz.underlying9 Tryz.underlying88 Tryz.underlying5 ?_);intro cap w3 hcap hrow hlt3 hb5);have HRow:=Lh_ hrow;clear hrow;generalize hgg:wr=wo at *;clear hgg;generalize hg:wo.heap.size=gb at *;go_loopw [9] (fun i wx=>∃ k:Nat,k≤t.size∧i=.int .i64 k∧Hid (ByteRow wx gb (tagK t.data.toList k))∧gb<wx.heap.size∧Hid (Below gb wo wx)) (fun i _=>t.size - (intOf i).toNat)
    case atStart=>exact ⟨0,Nat.zero_le _,rfl,by rw [tagK_zero];exact HRow,hlt3,hb5⟩
    case round =>
     clear HRow hlt3 hb5;obtain ⟨k2,hk2,rfl,HRow,hlt3,HB5⟩:=hrel;have htz:t.size≤256:=HTS.out;by_cases hlt:k2<t.size
     ·
      obtain ⟨x,hx⟩:∃ x:UInt8,t[k2]'hlt=x:=⟨_,rfl⟩
      have hxl:t.data.toList[k2]? = some x:=by rw [← hx];exact Lib.data_getElem? t k2 hlt
      obtain ⟨hbc,hbf⟩:=HRow.out k2 x (tagK_at hxl);have HKL:=Lh_ (show k2<(tagK t.data.toList k2).length by rw [tagK_length,ba_size];exact hlt);have HX:=Lh_ hxl;clear hxl hx;have i1:(k2:Int)<(t.size:Int):=by omega
      go_wp2_with fail;refine (IndexByte_at ⟨#[65,66,67,68,69,70,71,72,73,74,75,76,77,78,79,80,81,82,83,84,85,86,87,88,89,90,97,98,99,100,101,102,103,104,105,106,107,108,109,110,111,112,113,114,115,116,117,118,119,120,121,122,48,49,50,51,52,53,54,55,56,57]⟩ alnL rfl x _).mono ?_;rintro e w9 ⟨rfl,hw_⟩;rw [hw_];clear hw_ w9;have hin:=alnL_iff x;obtain ⟨z,hz⟩:∃ z,Lib.indexByte alnL x=z:=⟨_,rfl⟩;rw [hz] at hin ⊢;have HIN:=Lh_ hin;clear hin hz;by_cases hz0:z<0
      ·
       have HC:=Lh_ (show alnumB x=false by cases hc:alnumB x with | false=>rfl | true=>exact absurd hz0 (HIN.out.1 hc))
       go_wp2;go_roundw
       case rel =>
        refine ⟨k2+1,by omega,by go_num,?_,by simpa using hlt3,HB5.out.setCell (by simp) _⟩;rw [tagK_succ HX.out,HC.out];exact HRow.out.set_ HKL.out 95
       case measure=>simp [intOf];omega
      ·
       have HC:=Lh_ (HIN.out.2 hz0)
       go_wp2;go_roundw
       case rel=>exact ⟨k2+1,by omega,by go_num,by rw [tagK_same HX.out HC.out];exact HRow,hlt3,HB5⟩
       case measure=>simp [intOf];omega
     ·
      have HAll:=Lh_ (show ByteRow wr gb (t.data.toList.map fun x=>if alnumB x then x else 95) by have:=HRow.out;rwa [tagK_all (by rw [ba_size];omega)] at this)
      clear HRow;go_wp2_with (with_reducible refine at_dst 63 ?_;go_must (refine wpList_conv_string rfl 88 9 5 _ rfl gb cap t.size (t.data.toList.map fun x=>if alnumB x then x else 95) (by rw [List.length_map,ba_size]) rfl HAll.out Tryz.underlying88 Tryz.underlying5 Tryz.underlying9 ?_));have HBZ0:=Lh_ (show Below w.heap.size w wr by have h5:=HB5.out;rw [← hg] at h5;exact HBwr.out.trans (h5.mono HBwr.out.size));obtain ⟨wz,hwz⟩:∃ z,wr.alloc (.cells #[.string kIdPath,.string t,.string kIdTag,.string (tagT t)] 42)=z:=⟨_,rfl⟩;have HOWN:=Lh_ (own_lit (l:=pathA t) hwz rfl (by show 2≤maxLen;decide) (pathA_small HTS.out));have HBZ:=Lh_ (show Below wr.heap.size wr wz by rw [← hwz];exact (Below.refl _ _).alloc (Nat.le_refl _) _);clear HAll;go_wp2;simp only [show (⟨#[73,68,95,80,65,84,72]⟩:ByteArray)=kIdPath from rfl,show (⟨#[73,68,95,80,65,84,72,95,84,65,71]⟩:ByteArray)=kIdTag from rfl,show (⟨(t.data.toList.map fun x=>if alnumB x then x else 95).toArray⟩:ByteArray)=tagT t from rfl,hwz];go_ret;rw [HPE.out];exact SlPost.of_own (HBZ0.out.trans (HBZ.out.mono HBZ0.out.size)) rfl (HOWN.out.low HBZ0.out.size)
end Go.Proofs.YtjgllhlilbchpaaGreatDoor
