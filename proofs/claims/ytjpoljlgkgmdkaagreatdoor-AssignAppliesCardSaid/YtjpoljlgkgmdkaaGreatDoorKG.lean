/-
  The walk of the reference's Insert.
-/
import Derived.Test.YtjpoljlgkgmdkaaGreatDoorKTK
import Derived.Test.YtjpoljlgkgmdkaaGreatDoorKF
import Derived.Test.YtjpoljlgkgmdkaaGreatDoorKA
set_option linter.unusedSimpArgs false
set_option linter.unusedVariables false
namespace Go.Cold
open Go Go.RowKit
theorem idx_contains (n:Int):∀ L:List Dev,decide (0≤idxInt (fun d:Dev=>decide (d.idx=n)) L)=(idxs L).contains n:=by
 intro L;rw [idxInt_any];induction L with
 | nil=>rfl
 | cons d r ih =>
  show (decide (d.idx=n) || r.any _)=(d.idx :: idxs r).contains n
  rw [List.contains_cons,ih,Bool.eq_iff_iff];simp only [Bool.or_eq_true,decide_eq_true_eq,beq_iff_eq];exact ⟨fun h=>h.imp Eq.symm id,fun h=>h.imp Eq.symm id⟩
theorem chainO_org {L:List Dev} (h:WF L) (n:Int):(chainO L n).reverse.map (·.orig)=orgF L n:=chain_all h n
def insR (L:List Dev) (d:Dev):List Dev:=if insE L d=0 then insL L d else []
theorem SlS.take_ {α:Type} [RepS α] {w:World} {S:Nat→Prop} {A:Option Addr} {c n:Nat} {xs:List α} (h:SlS w S A c xs) (hn:n≤xs.length):SlS w S A c (xs.take n):=by
 refine ⟨by rw [List.length_take];have:=h.1;omega,h.2.1,fun h0=>?_⟩;rw [List.length_take] at h0;obtain ⟨b,o,e,B,C⟩:=h.2.2 (by omega);refine ⟨b,o,e,B,fun i x hx=>C i x ?_⟩;rw [List.getElem?_take] at hx;split at hx
 · exact hx
 cases hx
theorem SlS.drop_ {α:Type} [RepS α] {w:World} {S:Nat→Prop} {A:Option Addr} {c m:Nat} {xs:List α} (h:SlS w S A c xs) :
  SlS w S (if c=m then A else A.map (·.add (m * Rep.size α))) (c - m) (xs.drop m)∨xs.drop m=[]:=by
 by_cases hm:m<xs.length
 ·
  left
  obtain ⟨b,o,e,F,G⟩:=h.2.2 (by omega);have B:¬ c=m:=by have:=h.1;omega
  refine ⟨by rw [List.length_drop];have:=h.1;omega,by have:=h.2.1;omega,fun _=>⟨b,o+m * Rep.size α,by rw [if_neg B,e];simp [add_mk],F,fun i x hx=>?_⟩⟩;rw [List.getElem?_drop] at hx;obtain ⟨C,D,E⟩:=G (m+i) x hx;refine ⟨C,D,fun j u hu=>?_⟩;have:=E j u hu;rw [Nat.add_mul] at this;rw [← this];congr 2;omega
 right
 exact List.drop_eq_nil_of_le (by omega)
theorem sliced_take {A:Option Addr} {c m s:Nat}:sliced A 0 m c s=.slice A m c:=by
 unfold sliced;cases A with
 | none=>simp
 | some ad=>simp [Addr.add]
theorem any_take_step {α:Type} {p:α→Bool} {l:List α} {k:Nat} {x:α} (h:(l.take k).any p=false) (hx:l[k]? = some x) (hp:p x=false):(l.take (k+1)).any p=false:=by
 rw [List.take_add_one,hx,List.any_append,h];simp [hp]
theorem any_stop {α:Type} {p:α→Bool} {l:List α} {k:Nat} {x:α} (hx:l[k]? = some x) (hp:p x=true):l.any p=true :=
 List.any_eq_true.2 ⟨x,List.mem_of_getElem? hx,hp⟩
theorem VT.small {L:List Dev} (h:VT L):∀ d ∈ L,d.orig.size≤32∧(0≤d.idx∧d.idx≤1073741824):=fun d hd =>
 ⟨valid_size (check_names (h.chk d hd)).2.1,by have:=check_range (h.chk d hd);omega⟩
theorem own_len {L:List Dev} (h:VT L) (d:Dev):(ownL L d).length≤L.length+1:=by
 unfold ownL;rw [List.length_append,List.length_singleton];have:=org_len h.wf d.par;omega
def atK (L:List Dev) (own:List ByteArray) (k:Nat):Nat:=((L.take k).takeWhile (lessP L own)).length
theorem atK_all (L:List Dev) (own:List ByteArray):atK L own L.length=atN L own:=by unfold atK atN;rw [List.take_length]
theorem atK_le (L:List Dev) (own:List ByteArray) (k:Nat):atK L own k≤k:=by
 unfold atK;have A:=(List.takeWhile_prefix (l:=L.take k) (lessP L own)).length_le;rw [List.length_take] at A;omega
theorem SlS.low {α:Type} [RepS α] {w:World} {S:Nat→Prop} {A:Option Addr} {c B:Nat} {xs:List α} (h:SlS w S A c xs) (hS:∀ x,S x→x<B) (hB:B≤w.heap.size):Sl w w.heap.size A c xs:=(h.sl hS).more hB
end Go.Cold
namespace Go.Proofs.YtjpoljlgkgmdkaaGreatDoor
open Go.RowKit Go.Cold
theorem index_any2 (A:Option Addr) (c:Nat) (L:List Dev) (n:Int) (w:World) (B:Nat) (hx:Sl w B A c L):Calls Tryz.prog 91 #[.slice A L.length c,.int .i64 n] w fun e w'=>e=.returned (.int .i64 (idxInt (fun d:Dev=>decide (d.idx=n)) L))∧w=w' :=
 (index_any A c L n w B hx).mono fun _ _ ⟨h1,h2⟩=>⟨h1,h2.symm⟩
theorem E_txt:ElemT Tryz.prog (Rep.size ByteArray) 9 27 16:=⟨Tryz.underlying27,by obtain ⟨i,hi,hz,h1,h2⟩:=info_parts info_txt;exact ⟨i,_,hi,hz,h1,h2,rfl⟩⟩
def InsPost (L:List Dev) (d:Dev) (S:Nat→Prop) (w:World) (e:Ending) (w':World):Prop:=Below w.heap.size w w'∧∃ v,e=.returned (.tuple #[.agg #[v],.int .i64 (insE L d)])∧OwnsS S w' w.heap.size 84 v (insR L d)
set_option maxRecDepth 100000 in
set_option maxHeartbeats 8000000 in
theorem RInsert_any (A:Option Addr) (c:Nat) (L:List Dev) (d:Dev) (A2:Option Addr) (c2:Nat) (S:Nat→Prop) (w:World) (hx:SlS w S A c L) (hS:∀ x,S x→x<w.heap.size) (hd:devOk d) (ha:SlS w S A2 c2 d.attrs) (hvt:VT L) (hok:Ok w):Calls Tryz.prog 53 #[.agg #[.slice A L.length c],.agg #[.int .i64 d.idx,.int .i64 d.par,.string d.nm,.string d.orig,.string d.sub,.string d.drv,.string d.ali,.int .i64 d.kind,.int .i64 d.num,.slice A2 d.attrs.length c2]] w (InsPost L d S w):=by
 have K8:=hvt.small;have J8:=hvt.size;have Kb:=hx.1;have Ka:=hx.2.1;unfold maxLen at Ka;have I8:=own_len hvt d;have HX:=Lh_ hx;have T:=Lh_ hS;have HD:=Lh_ hd;have HA:=Lh_ ha;have L1:=Lh_ hvt;have U7:=Lh_ hok;have Ia:=Lh_ K8;have N:=Lh_ J8;have Bb:=Lh_ I8;clear hx hS hd ha hvt hok K8 J8 I8;go_enter Tryz.func53,Tryz.ntmps53;go_upto_region 1 with fail
 obtain ⟨w1,L8,F5,A0,B7⟩:=bx_ w [.slice A L.length c] 47;try simp only [L8]
 have O7:=Lh_ F5;clear L8 F5;try rw [← A0.out]
 obtain ⟨w2,M8,Y3,B0,W6⟩:=bx_ w1 [.int .i64 d.idx,.int .i64 d.par,.string d.nm,.string d.orig,.string d.sub,.string d.drv,.string d.ali,.int .i64 d.kind,.int .i64 d.num,.slice A2 d.attrs.length c2] 84;try simp only [M8]
 have P7:=tb_ O7 Y3;have Ra:=kb_ B7 Y3;clear M8 Y3;try rw [← B0.out]
 obtain ⟨w3,N8,M2,S7,T1⟩:=bx_ w2 [.slice none 0 0] 47;try simp only [N8]
 have W1:=tb_ P7 M2;have T9:=kb_ Ra M2;have B9:=kb_ W6 M2;clear N8 M2;try rw [← S7.out]
 have M1:=T9.out.1 0 _ rfl;obtain ⟨L3,M3,N3,O3,P3,Q3,R3,S3,T3,U3⟩:=s10_ B9.out.1;have G0:=T1.out.1 0 _ rfl;have Y:=T1.out.2.1;go_wp2_with fail;refine (RCheck_any d A2 c2 _ w.heap.size W1.out.size HD.out (((HA.out.sl T.out)).keep W1.out) (U7.out.next W1.out)).mono ?_;rintro e w4 ⟨rfl,N1⟩;clear M1 L3 M3 N3 O3 P3 Q3 R3 S3 T3 U3 G0 Y;have D0:=tb_ W1 N1;have R4:=kb_ T9 N1;have K4:=kb_ B9 N1;have A5:=kb_ T1 N1;clear N1;have M1:=R4.out.1 0 _ rfl;obtain ⟨L3,M3,N3,O3,P3,Q3,R3,S3,T3,U3⟩:=s10_ K4.out.1;have G0:=A5.out.1 0 _ rfl;have Y:=A5.out.2.1;by_cases hc:checkD d=0
 ·
  have Ca:=Lh_ (show d.orig.size≤32 from valid_size (check_names hc).2.1);have ec:(checkD d != 0)=false:=by rw [hc];rfl
  have HC:=Lh_ hc;try rw [hc]
  clear hc;go_wp2_with fail;refine (index_any2 A c L d.idx _ w.heap.size ((HX.out.sl T.out).keep D0.out)).mono ?_;rintro e w' ⟨rfl,rfl⟩;have U:=idx_contains d.idx L;obtain ⟨z,hz⟩:∃ z,idxInt (fun d_1:Dev=>decide (d_1.idx=d.idx)) L=z:=⟨_,rfl⟩;rw [hz] at U ⊢;clear hz;cases hin:(idxs L).contains d.idx with
  | true =>
   rw [hin] at U;have i1:0≤z:=of_decide_eq_true U;have S1:=Lh_ hin;clear hin U;have HE:=Lh_ (show insE L d=44 by unfold insE;rw [if_neg (by rw [HC.out];decide),if_pos S1.out]);have I0:=Lh_ (show insR L d=[] by unfold insR;rw [HE.out];rfl);go_wp2;refine bodyPost_ret (v:=.tuple #[.agg #[.slice none 0 0],.int .i64 44]) (by simp [results,Tryz.results53,go_sem,G0,Y]) rfl ⟨D0.out.setCell (by have:=A0.out;have:=B0.out;show w.heap.size≤w2.heap.size;omega) _,.slice none 0 0,by rw [HE.out],by rw [I0.out];exact OwnsS.nil_ _ _ _ _⟩
  | false =>
   rw [hin] at U;have i1:¬ 0≤z:=of_decide_eq_false U;have S1:=Lh_ hin;clear hin U;obtain ⟨bp,hbp⟩:∃ b,(decide (d.par≠0) && !(idxs L).contains d.par)=b:=⟨_,rfl⟩;have T4:=Lh_ hbp;clear hbp;go_upto_region 5 with fail
   go_cut [32] (fun s32 wx=>s32=.bool bp∧w4=wx)
   case first =>
    by_cases hp:d.par=0
    ·
     have ep:(d.par != 0)=false:=by rw [hp];rfl
     have HR:=Lh_ (show false=bp by rw [← T4.out];simp [hp]);clear hp;go_wp2_with fail;go_meet;exact ⟨by rw [HR.out],rfl⟩
    have ep:(d.par != 0)=true:=by simpa using hp
    go_wp2_with fail;refine (index_any2 A c L d.par _ w.heap.size ((HX.out.sl T.out).keep D0.out)).mono ?_;rintro e w' ⟨rfl,rfl⟩;have U:=idx_contains d.par L;obtain ⟨y,hy⟩:∃ y,idxInt (fun d_1:Dev=>decide (d_1.idx=d.par)) L=y:=⟨_,rfl⟩;rw [hy] at U ⊢;clear hy;have hr:decide (y<0)=bp:=by rw [← T4.out,← U];simp [hp];by_cases h:y<0 <;> simp [h] <;> omega
    have HR:=Lh_ hr;clear hr hp U;go_wp2_with fail;go_meet;exact ⟨by rw [HR.out],rfl⟩
   case rest =>
   obtain ⟨rfl,rfl⟩:=hcut;cases bp with
   | true =>
    have Ea:=Lh_ (show d.par≠0∧(idxs L).contains d.par=false by have h:=T4.out;simpa using h);have HE:=Lh_ (show insE L d=42 by unfold insE;rw [if_neg (by rw [HC.out];decide),if_neg (by rw [S1.out];decide),if_pos Ea.out]);have I0:=Lh_ (show insR L d=[] by unfold insR;rw [HE.out];rfl);go_wp2;refine bodyPost_ret (v:=.tuple #[.agg #[.slice none 0 0],.int .i64 42]) (by simp [results,Tryz.results53,go_sem,G0,Y]) rfl ⟨D0.out.setCell (by have:=A0.out;have:=B0.out;show w.heap.size≤w2.heap.size;omega) _,.slice none 0 0,by rw [HE.out],by rw [I0.out];exact OwnsS.nil_ _ _ _ _⟩
   | false =>
    have HP:=Lh_ (show ¬ (d.par≠0∧(idxs L).contains d.par=false) by have h:=T4.out;intro hh;simp [hh.1,hh.2] at h;first | exact absurd h (by decide) | (have:=hh.2;simp_all));by_cases hl:256≤L.length
    ·
     have i4:(256:Int)≤(L.length:Int):=by omega
     have HL:=Lh_ hl;clear hl;have HE:=Lh_ (show insE L d=40 by unfold insE;rw [if_neg (by rw [HC.out];decide),if_neg (by rw [S1.out];decide),if_neg HP.out,if_pos HL.out]);have I0:=Lh_ (show insR L d=[] by unfold insR;rw [HE.out];rfl);go_wp2;refine bodyPost_ret (v:=.tuple #[.agg #[.slice none 0 0],.int .i64 40]) (by simp [results,Tryz.results53,go_sem,G0,Y]) rfl ⟨D0.out.setCell (by have:=A0.out;have:=B0.out;show w.heap.size≤w2.heap.size;omega) _,.slice none 0 0,by rw [HE.out],by rw [I0.out];exact OwnsS.nil_ _ _ _ _⟩
    have i4:¬ (256:Int)≤(L.length:Int):=by omega
    have HL:=Lh_ hl;clear hl;go_upto_region 9 with fail
    go_cut [6] (fun s6 wx=>∃ (A6:Option Addr) (c6:Nat),s6=.slice A6 (ownL L d).length c6∧Hid (Below w4.heap.size w4 wx∧Sl wx wx.heap.size A6 c6 (ownL L d)))
    case first =>
     refine wp_region_held_drew (S:=fun w'=>BoxL w' w.heap.size [.slice A L.length c]∧BoxL w' w1.heap.size [.int .i64 d.idx,.int .i64 d.par,.string d.nm,.string d.orig,.string d.sub,.string d.drv,.string d.ali,.int .i64 d.kind,.int .i64 d.num,.slice A2 d.attrs.length c2]) (by kernel_rfl) ⟨R4.out.drew,K4.out.drew⟩ (fun hS0=>?_);obtain ⟨wd,hwd⟩:∃ z,w4.drew=z:=⟨_,rfl⟩;rw [hwd] at hS0 ⊢;have M:Below w4.heap.size w4 wd:=by rw [← hwd];exact below_drewN_self _ _ 1
     clear hwd;have Z:=Lh_ M;have O:=tb_ D0 M;have Q:=kb_ R4 M;have P:=kb_ K4 M;have P1:=kb_ A5 M;clear M;refine tk1 0 39 (.agg #[.slice A L.length c]) rfl (fun w' hS=>by (have u:=hS.1.1 0 _ rfl;go_simp)) ⟨Q.out,P.out⟩ ?_;try simp only [Act.put,sA_,sB_,sC_]
     refine tk1 1 40 (.pointer (some ⟨w1.heap.size,1,none⟩)) rfl (fun w' hS=>by go_simp) ⟨Q.out,P.out⟩ ?_;try simp only [Act.put,sA_,sB_,sC_]
     refine tk1 2 41 (.int .i64 d.par) rfl (fun w' hS=>by (have u:=hS.2.1 1 _ rfl;go_simp)) ⟨Q.out,P.out⟩ ?_;try simp only [Act.put,sA_,sB_,sC_]
     refine tk1 4 43 (.pointer (some ⟨w1.heap.size,3,none⟩)) rfl (fun w' hS=>by go_simp) ⟨Q.out,P.out⟩ ?_;try simp only [Act.put,sA_,sB_,sC_]
     refine tk1 5 44 (.string d.orig) rfl (fun w' hS=>by (have u:=hS.2.1 3 _ rfl;go_simp)) ⟨Q.out,P.out⟩ ?_;try simp only [Act.put,sA_,sB_,sC_]
     have F:=Lh_ (show w.heap.size<w4.heap.size∧w1.heap.size<w4.heap.size from ⟨R4.out.2.2,K4.out.2.2⟩);refine wpAnyH_ready (rs:=[3,6]) (by kernel_rfl) (by simp) ?_;refine AllReadyH.cons (o:=⟨some 42,.call ⟨_,_,_⟩,_,_,_,_⟩) rfl (fun K hK=>?_) (AllReadyH.cons (o:=⟨some 45,.buildSlice _ _ _,_,_,_,_⟩) rfl (fun K hK=>?_) AllReadyH.nil)
     ·
      go_simp;go_at_call 92;refine (ROrigin_any A c L d.par _ w.heap.size O.out.size ((HX.out.sl T.out).keep O.out) (by have:=N.out;omega) HD.out.2.1).mono ?_;rintro e' q5 ⟨E,v,rfl,C⟩;rw [chainO_org L1.out.wf] at C;have V4:=Lh_ C;clear C;have J1:=Lh_ E;have N7:=tb_ O E;have P9:=kb_ Q E;have W8:=kb_ P E;have Oa:=kb_ P1 E;clear E;refine hK.out _ _ ⟨P9.out,W8.out⟩ (fun _=>?_);clear hK K;try simp only [Act.put,sA_,sB_,sC_]
      refine rd1 6 (o:=⟨some 45,.buildSlice _ _ _,_,_,_,_⟩) rfl (fun K hK=>?_);go_simp;obtain ⟨q6,hq6⟩:∃ z,q5.alloc (.cells #[.string d.orig] 9)=z:=⟨_,rfl⟩;have E:Below q5.heap.size q5 q6:=by rw [← hq6];exact (Below.refl _ _).alloc (Nat.le_refl _) _
      have D6:=Lh_ (show BoxL q6 q5.heap.size [.string d.orig] from box_mk hq6);try rw [hq6]
      clear hq6;have I2:=Lh_ E;have Ta:=tb_ N7 E;have Q9:=kb_ P9 E;have X8:=kb_ W8 E;have Qb:=kb_ Oa E;clear E;refine hK.out _ _ ⟨Q9.out,X8.out⟩ (fun _=>?_);clear hK K;try simp only [Act.put,sA_,sB_,sC_]
      have H3:=Lh_ (V4.out.below I2.out);refine rd1 7 (o:=⟨some 46,.call ⟨_,_,_⟩,_,_,_,_⟩) rfl (fun K hK=>?_);have X3:wd.heap.size≤q6.heap.size:=by have:=J1.out.size;have:=I2.out.size;omega
      have B:∀ k,v.ownBlock=some k→w4.heap.size≤k:=fun k R=>by have:=(H3.out.lt k R).1;have:=Z.out.size;have:=J1.out.size;omega
      refine step_app rfl _ _ rfl v (.slice (some ⟨q5.heap.size,0,none⟩) 1 1) (by simp [Act.eval,Act.put]) (by simp [Act.eval,Act.put]) (run_app1 E_txt _ v (orgF L d.par) H3.out q5.heap.size d.orig [.string d.orig] D6.out.1 ⟨rfl,HD.out.2.2.2.1⟩ (by have:=org_len L1.out.wf d.par;have:=N.out;unfold maxLen;omega) (by have:=org_len L1.out.wf d.par;have:=N.out;omega) X3) ?_;rintro v2 q7 ⟨C,D,H⟩;have C6:=Lh_ (show Below w4.heap.size w4 q7 from below_own (Z.out.trans ((J1.out.trans (I2.out.mono J1.out.size)).mono Z.out.size)) D (by have:=Z.out.size;have:=J1.out.size;have:=I2.out.size;omega) B);have G3:=Lh_ (Q9.out.kept D (fun e=>by have:=B _ e.symm;have:=F.out;omega));have F3:=Lh_ (X8.out.kept D (fun e=>by have:=B _ e.symm;have:=F.out;omega));obtain ⟨A6,c6,C0,F0⟩:=C.sl;have A4:(orgF L d.par ++ [d.orig]).length=(ownL L d).length:=rfl;rw [A4] at C0;subst C0;have U6:=Lh_ (show Sl q7 q7.heap.size A6 c6 (ownL L d) from F0);clear C D H F0 B X3 A4;refine hK.out _ _ ⟨G3.out,F3.out⟩ (fun _=>?_);clear hK K;try simp only [Act.put,sA_,sB_,sC_]
      refine tk1 8 6 (.slice A6 (ownL L d).length c6) rfl (fun w' hS=>by go_simp) ⟨G3.out,F3.out⟩ ?_;try simp only [Act.put,sA_,sB_,sC_]
      refine wpAnyH_done (by kernel_rfl) ?_ _;go_wp2_with fail;go_meet;exact ⟨A6,c6,rfl,⟨C6.out,U6.out⟩⟩
     go_simp;obtain ⟨q8,hq8⟩:∃ z,wd.alloc (.cells #[.string d.orig] 9)=z:=⟨_,rfl⟩;have E:Below wd.heap.size wd q8:=by rw [← hq8];exact (Below.refl _ _).alloc (Nat.le_refl _) _
     have E6:=Lh_ (show BoxL q8 wd.heap.size [.string d.orig] from box_mk hq8);try rw [hq8]
     clear hq8;have K1:=Lh_ E;have Y2:=tb_ O E;have R9:=kb_ Q E;have Y8:=kb_ P E;have Pa:=kb_ P1 E;clear E;refine hK.out _ _ ⟨R9.out,Y8.out⟩ (fun _=>?_);clear hK K;try simp only [Act.put,sA_,sB_,sC_]
     refine rd1 3 (o:=⟨some 42,.call ⟨_,_,_⟩,_,_,_,_⟩) rfl (fun K hK=>?_);go_simp;go_at_call 92;refine (ROrigin_any A c L d.par _ w.heap.size Y2.out.size ((HX.out.sl T.out).keep Y2.out) (by have:=N.out;omega) HD.out.2.1).mono ?_;rintro e' q9 ⟨E,v,rfl,C⟩;rw [chainO_org L1.out.wf] at C;have X1:=Lh_ C;clear C;have J2:=Lh_ E;have Ua:=tb_ Y2 E;have S9:=kb_ R9 E;have Z8:=kb_ Y8 E;have Rb:=kb_ Pa E;clear E;refine hK.out _ _ ⟨S9.out,Z8.out⟩ (fun _=>?_);clear hK K;try simp only [Act.put,sA_,sB_,sC_]
     have M7:=Lh_ (E6.out.kept (grown_none J2.out) (fun e=>by cases e));refine rd1 7 (o:=⟨some 46,.call ⟨_,_,_⟩,_,_,_,_⟩) rfl (fun K hK=>?_);have X3:q8.heap.size≤q9.heap.size:=by have:=K1.out.size;have:=J2.out.size;omega
     have B:∀ k,v.ownBlock=some k→w4.heap.size≤k:=fun k R=>by have:=(X1.out.lt k R).1;have:=Z.out.size;have:=K1.out.size;omega
     refine step_app rfl _ _ rfl v (.slice (some ⟨wd.heap.size,0,none⟩) 1 1) (by simp [Act.eval,Act.put]) (by simp [Act.eval,Act.put]) (run_app1 E_txt _ v (orgF L d.par) X1.out wd.heap.size d.orig [.string d.orig] M7.out.1 ⟨rfl,HD.out.2.2.2.1⟩ (by have:=org_len L1.out.wf d.par;have:=N.out;unfold maxLen;omega) (by have:=org_len L1.out.wf d.par;have:=N.out;omega) X3) ?_;rintro v2 q10 ⟨C,D,H⟩;have C6:=Lh_ (show Below w4.heap.size w4 q10 from below_own (Z.out.trans ((K1.out.trans (J2.out.mono K1.out.size)).mono Z.out.size)) D (by have:=Z.out.size;have:=K1.out.size;have:=J2.out.size;omega) B);have G3:=Lh_ (S9.out.kept D (fun e=>by have:=B _ e.symm;have:=F.out;omega));have F3:=Lh_ (Z8.out.kept D (fun e=>by have:=B _ e.symm;have:=F.out;omega));obtain ⟨A6,c6,C0,F0⟩:=C.sl;have A4:(orgF L d.par ++ [d.orig]).length=(ownL L d).length:=rfl;rw [A4] at C0;subst C0;have U6:=Lh_ (show Sl q10 q10.heap.size A6 c6 (ownL L d) from F0);clear C D H F0 B X3 A4;refine hK.out _ _ ⟨G3.out,F3.out⟩ (fun _=>?_);clear hK K;try simp only [Act.put,sA_,sB_,sC_]
     refine tk1 8 6 (.slice A6 (ownL L d).length c6) rfl (fun w' hS=>by go_simp) ⟨G3.out,F3.out⟩ ?_;try simp only [Act.put,sA_,sB_,sC_]
     refine wpAnyH_done (by kernel_rfl) ?_ _;go_wp2_with fail;go_meet;exact ⟨A6,c6,rfl,⟨C6.out,U6.out⟩⟩
    case rest =>
    obtain ⟨A6,c6,rfl,hq⟩:=hcut;have E1:=hq.out.1;have S6:=Lh_ hq.out.2;clear hq;clear M1 L3 M3 N3 O3 P3 Q3 R3 S3 T3 U3 G0 Y;have C5:=tb_ D0 E1;have U9:=kb_ R4 E1;have C9:=kb_ K4 E1;have I7:=kb_ A5 E1;clear E1;have M1:=U9.out.1 0 _ rfl;obtain ⟨L3,M3,N3,O3,P3,Q3,R3,S3,T3,U3⟩:=s10_ C9.out.1;have G0:=I7.out.1 0 _ rfl;have Y:=I7.out.2.1;by_cases ho:7<(ownL L d).length
    ·
     have i5:(7:Int)<((ownL L d).length:Int):=by omega
     have HO:=Lh_ ho;clear ho;have HE:=Lh_ (show insE L d=46 by unfold insE;rw [if_neg (by rw [HC.out];decide),if_neg (by rw [S1.out];decide),if_neg HP.out,if_neg HL.out,if_pos HO.out]);have I0:=Lh_ (show insR L d=[] by unfold insR;rw [HE.out];rfl);go_wp2;refine bodyPost_ret (v:=.tuple #[.agg #[.slice none 0 0],.int .i64 46]) (by simp [results,Tryz.results53,go_sem,G0,Y]) rfl ⟨C5.out.setCell (by have:=A0.out;have:=B0.out;show w.heap.size≤w2.heap.size;omega) _,.slice none 0 0,by rw [HE.out],by rw [I0.out];exact OwnsS.nil_ _ _ _ _⟩
    have i5:¬ (7:Int)<((ownL L d).length:Int):=by omega
    have HO:=Lh_ ho;clear ho;go_wp2_with fail;go_loopw [7,8] (fun s7 s8 wr=>∃ k:Nat,k≤L.length∧s8=.int .i64 k∧s7=.int .i64 (atK L (ownL L d) k)∧Hid ((L.take k).any (badP L d)=false)∧Hid (Below wc.heap.size wc wr)) (fun _ i _=>L.length - (intOf i).toNat)
    case atStart=>exact ⟨0,Nat.zero_le _,rfl,rfl,rfl,Below.refl _ _⟩
    obtain ⟨k,R,rfl,rfl,B6,X2⟩:=hrel;have S2:=X2.out;clear M1 L3 M3 N3 O3 P3 Q3 R3 S3 T3 U3 G0 Y;have V:=tb_ C5 S2;have U1:=kb_ U9 S2;have L4:=kb_ C9 S2;have T2:=kb_ I7 S2;have R6:=Lh_ (S6.out.keep S2);clear S2;have M1:=U1.out.1 0 _ rfl;have Y:=T2.out.2.1;by_cases hlt:k<L.length
    ·
     have i6:(k:Int)<(L.length:Int):=by omega
     have Ja:=Lh_ ((HX.out.sl T.out).keep V.out);obtain ⟨b3,o3,rfl,E8,A3,c3,B4,W3,Z3⟩:=Ja.out.dev hlt;have G7:L[k]? = some L[k]:=List.getElem?_eq_getElem hlt;have F7:=Ia.out _ (List.getElem_mem hlt);have E7:=at_step L1.out (ownL L d) hlt;obtain ⟨y,hy⟩:∃ y,L[k]'hlt=y:=⟨_,rfl⟩;rw [hy] at B4 W3 Z3 G7 F7 E7;have V6:=Lh_ G7;have Ha:=Lh_ F7;have Sa:=Lh_ W3;have R7:=Lh_ Z3;have V7:=Lh_ B4;have P2:=Lh_ E8;have A8:=Lh_ (show atK L (ownL L d) (k+1)=if lessP L (ownL L d) y then k+1 else atK L (ownL L d) k from E7);clear G7 F7 W3 B4 E8 E7 hy Z3;have y0:=R7.out.1;go_wp2_with fail;refine wp_region_held_drew (S:=fun w'=>BoxL w' w.heap.size [.slice (some ⟨b3,o3,none⟩) L.length c]∧w'.cell? ⟨b3,o3+k * 10,none⟩=some (.int .i64 y.idx)) (by kernel_rfl) ⟨U1.out.drew,y0⟩ (fun hS0=>?_);obtain ⟨wd,hwd⟩:∃ z,wr.drew=z:=⟨_,rfl⟩;rw [hwd] at hS0 ⊢;have M:Below wr.heap.size wr wd:=by rw [← hwd];exact below_drewN_self _ _ 1
     clear hwd y0;clear M1 Y;have O:=tb_ V M;have Q:=kb_ U1 M;have P:=kb_ L4 M;have P1:=kb_ T2 M;have P6:=Lh_ (R6.out.keep (M.mono X2.out.size));have Z:=Lh_ M;clear M;have T0:=Lh_ hS0;clear hS0;refine tk1 0 58 (.agg #[.slice (some ⟨b3,o3,none⟩) L.length c]) rfl (fun w' hS=>by (have u:=hS.1.1 0 _ rfl;go_simp)) T0.out ?_;try simp only [Act.put,sA_,sB_,sC_]
     refine tk1 1 59 (.pointer (some ⟨w.heap.size,0,none⟩)) rfl (fun w' hS=>by go_simp) T0.out ?_;try simp only [Act.put,sA_,sB_,sC_]
     refine tk1 2 60 (.slice (some ⟨b3,o3,none⟩) L.length c) rfl (fun w' hS=>by (have u:=hS.1.1 0 _ rfl;go_simp)) T0.out ?_;try simp only [Act.put,sA_,sB_,sC_]
     refine tk1 3 61 (.int .i64 k) rfl (fun w' hS=>by go_simp) T0.out ?_;try simp only [Act.put,sA_,sB_,sC_]
     refine tk1 4 62 (.pointer (some ⟨b3,o3+k * 10,none⟩)) rfl (fun w' hS=>by go_simp) T0.out ?_;try simp only [Act.put,sA_,sB_,sC_]
     refine tk1 5 63 (.pointer (some ⟨b3,o3+k * 10,none⟩)) rfl (fun w' hS=>by go_simp) T0.out ?_;try simp only [Act.put,sA_,sB_,sC_]
     refine tk1 6 64 (.int .i64 y.idx) rfl (fun w' hS=>by (have u:=hS.2;go_simp)) T0.out ?_;try simp only [Act.put,sA_,sB_,sC_]
     refine tk1 8 66 (.slice A6 (ownL L d).length c6) rfl (fun w' hS=>by go_simp) T0.out ?_;try simp only [Act.put,sA_,sB_,sC_]
     refine rd1 7 (o:=⟨some 65,.call ⟨_,_,_⟩,_,_,_,_⟩) rfl (fun K hK=>?_);go_simp;go_at_call 92;refine (ROrigin_any (some ⟨b3,o3,none⟩) c L y.idx _ w.heap.size O.out.size ((HX.out.sl T.out).keep O.out) (by have:=N.out;omega) V7.out.1).mono ?_;rintro e' e1 ⟨E,v,rfl,C⟩;rw [chainO_org L1.out.wf] at C;obtain ⟨A7,c7,C0,F0⟩:=C.sl;subst C0;have Z7:=Lh_ F0;clear F0 C;have T6:=Lh_ (show BoxL e1 w.heap.size [.slice (some ⟨b3,o3,none⟩) L.length c]∧e1.cell? ⟨b3,o3+k * 10,none⟩=some (.int .i64 y.idx) from ⟨T0.out.1.kept (grown_none E) (fun e=>by cases e),(E.cell (by show b3<_;have:=P2.out;have:=O.out.size;omega)).trans T0.out.2⟩);have Q6:=Lh_ (P6.out.keep (E.mono (Nat.le_trans X2.out.size Z.out.size)));have B5:=tb_ O E;have Qa:=kb_ Q E;have La:=kb_ P E;have Ma:=kb_ P1 E;have X4:=Lh_ E;clear E;refine hK.out _ _ T6.out (fun _=>?_);clear hK K;try simp only [Act.put,sA_,sB_,sC_]
     refine rd1 9 (o:=⟨some 67,.call ⟨_,_,_⟩,_,_,_,_⟩) rfl (fun K hK=>?_);go_simp;go_at_call 97;refine (RCompare_any A7 A6 c7 c6 (orgF L y.idx) (ownL L d) _ _ _ Z7.out Q6.out).mono ?_;rintro e' e2 ⟨rfl,nq,rfl⟩;obtain ⟨e2,he2⟩:∃ z,e1.drewN nq=z:=⟨_,rfl⟩;rw [he2];have E:Below e1.heap.size e1 e2:=by rw [← he2];exact below_drewN_self _ _ nq
     clear he2;obtain ⟨cv,hcv⟩:∃ z,cmpL (orgF L y.idx) (ownL L d)=z:=⟨_,rfl⟩;rw [hcv];have U4:=Lh_ hcv;clear hcv;have X7:=Lh_ (show BoxL e2 w.heap.size [.slice (some ⟨b3,o3,none⟩) L.length c]∧e2.cell? ⟨b3,o3+k * 10,none⟩=some (.int .i64 y.idx) from ⟨T6.out.1.kept (grown_none E) (fun e=>by cases e),(E.cell (by show b3<_;have:=P2.out;have:=B5.out.size;omega)).trans T6.out.2⟩);have H0:=tb_ B5 E;have J7:=kb_ Qa E;have H7:=kb_ La E;have Na:=kb_ Ma E;have B8:=Lh_ E;clear E;refine hK.out _ _ X7.out (fun _=>?_);clear hK K;try simp only [Act.put,sA_,sB_,sC_]
     refine tk1 10 9 (.int .i64 cv) rfl (fun w' hS=>by go_simp) X7.out ?_;try simp only [Act.put,sA_,sB_,sC_]
     refine wpAnyH_done (by kernel_rfl) ?_ _;have Fa:=Lh_ (show Below wc.heap.size wc e2 from (X2.out.trans ((Z.out.trans ((X4.out.trans (B8.out.mono X4.out.size)).mono Z.out.size)).mono X2.out.size)));go_upto_region 17 with fail
     go_cut [78] (fun s78 wx=>s78=.bool (badP L d y)∧Hid (Below e2.heap.size e2 wx))
     case first =>
      have Q7:=Lh_ (show DCells e2 b3 (o3+k * 10) y A3 c3 from R7.out.keep (Z.out.trans ((X4.out.trans (B8.out.mono X4.out.size)).mono Z.out.size)) (by have:=P2.out;have:=V.out.size;omega));by_cases hz:cv=0
      ·
       have ez:(cv == 0)=true:=by simp [hz]
       have W2:=Lh_ (show true=badP L d y by unfold badP;rw [U4.out,hz];rfl);have HZ:=Lh_ hz;clear hz;refine wp_region_held_drew (S:=fun w'=>BoxL w' w.heap.size [.slice (some ⟨b3,o3,none⟩) L.length c]∧BoxL w' w1.heap.size [.int .i64 d.idx,.int .i64 d.par,.string d.nm,.string d.orig,.string d.sub,.string d.drv,.string d.ali,.int .i64 d.kind,.int .i64 d.num,.slice A2 d.attrs.length c2]∧DCells w' b3 (o3+k * 10) y A3 c3) (by kernel_rfl) ⟨J7.out.drew,H7.out.drew,Q7.out.keep (below_drewN_self _ _ 1) (by have:=P2.out;have:=H0.out.size;omega)⟩ (fun hS0=>?_);obtain ⟨wf,hwf⟩:∃ z,e2.drew=z:=⟨_,rfl⟩;rw [hwf] at hS0 ⊢;have M:Below e2.heap.size e2 wf:=by rw [← hwf];exact below_drewN_self _ _ 1
       clear hwf;have J:=Lh_ hS0;have Z2:=Lh_ M;clear hS0 M;refine tk1 0 68 (.int .i64 cv) rfl (fun w' hS=>by go_simp) J.out ?_;try simp only [Act.put,sA_,sB_,sC_]
       refine tk1 1 69 (.bool true) rfl (fun w' hS=>by go_simp) J.out ?_;try simp only [Act.put,sA_,sB_,sC_]
       refine tk1 2 70 (.bool true) rfl (fun w' hS=>by go_simp) J.out ?_;try simp only [Act.put,sA_,sB_,sC_]
       refine tk0 3 71 rfl J.out ?_;try simp only [Act.put,sA_,sB_,sC_]
       refine tk0 4 72 rfl J.out ?_;try simp only [Act.put,sA_,sB_,sC_]
       refine tk0 5 73 rfl J.out ?_;try simp only [Act.put,sA_,sB_,sC_]
       refine tk0 6 74 rfl J.out ?_;try simp only [Act.put,sA_,sB_,sC_]
       refine tk0 7 75 rfl J.out ?_;try simp only [Act.put,sA_,sB_,sC_]
       refine tk0 8 76 rfl J.out ?_;try simp only [Act.put,sA_,sB_,sC_]
       refine tk0 9 77 rfl J.out ?_;try simp only [Act.put,sA_,sB_,sC_]
       refine tk1 10 78 (.bool true) rfl (fun w' hS=>by go_simp) J.out ?_;try simp only [Act.put,sA_,sB_,sC_]
       refine wpAnyH_done (by kernel_rfl) ?_ _;go_wp2_with fail;go_meet;exact ⟨by rw [W2.out],Z2⟩
      have ez:(cv == 0)=false:=by simp [hz]
      have W2:=Lh_ (show clashB y d=badP L d y by unfold badP;rw [U4.out,decide_eq_false hz];rfl);have HZ:=Lh_ hz;clear hz;refine wp_region_held_drew (S:=fun w'=>BoxL w' w.heap.size [.slice (some ⟨b3,o3,none⟩) L.length c]∧BoxL w' w1.heap.size [.int .i64 d.idx,.int .i64 d.par,.string d.nm,.string d.orig,.string d.sub,.string d.drv,.string d.ali,.int .i64 d.kind,.int .i64 d.num,.slice A2 d.attrs.length c2]∧DCells w' b3 (o3+k * 10) y A3 c3) (by kernel_rfl) ⟨J7.out.drew,H7.out.drew,Q7.out.keep (below_drewN_self _ _ 1) (by have:=P2.out;have:=H0.out.size;omega)⟩ (fun hS0=>?_);obtain ⟨wf,hwf⟩:∃ z,e2.drew=z:=⟨_,rfl⟩;rw [hwf] at hS0 ⊢;have M:Below e2.heap.size e2 wf:=by rw [← hwf];exact below_drewN_self _ _ 1
      clear hwf;have J:=Lh_ hS0;have Z2:=Lh_ M;clear hS0 M;refine tk1 0 68 (.int .i64 cv) rfl (fun w' hS=>by go_simp) J.out ?_;try simp only [Act.put,sA_,sB_,sC_]
      refine tk1 1 69 (.bool false) rfl (fun w' hS=>by go_simp) J.out ?_;try simp only [Act.put,sA_,sB_,sC_]
      refine tk1 2 70 (.bool false) rfl (fun w' hS=>by go_simp) J.out ?_;try simp only [Act.put,sA_,sB_,sC_]
      refine tk1 3 71 (.pointer (some ⟨w.heap.size,0,none⟩)) rfl (fun w' hS=>by go_simp) J.out ?_;try simp only [Act.put,sA_,sB_,sC_]
      refine tk1 4 72 (.slice (some ⟨b3,o3,none⟩) L.length c) rfl (fun w' hS=>by (have u:=hS.1.1 0 _ rfl;go_simp)) J.out ?_;try simp only [Act.put,sA_,sB_,sC_]
      refine tk1 5 73 (.int .i64 k) rfl (fun w' hS=>by go_simp) J.out ?_;try simp only [Act.put,sA_,sB_,sC_]
      refine tk1 6 74 (.pointer (some ⟨b3,o3+k * 10,none⟩)) rfl (fun w' hS=>by go_simp) J.out ?_;try simp only [Act.put,sA_,sB_,sC_]
      refine tk1 7 75 (.agg #[.int .i64 y.idx,.int .i64 y.par,.string y.nm,.string y.orig,.string y.sub,.string y.drv,.string y.ali,.int .i64 y.kind,.int .i64 y.num,.slice A3 y.attrs.length c3]) rfl (fun w' hS=>by (obtain ⟨u0,u1,u2,u3,u4,u5,u6,u7,u8,u9⟩:=hS.2.2;go_simp)) J.out ?_;try simp only [Act.put,sA_,sB_,sC_]
      refine tk1 8 76 (.agg #[.int .i64 d.idx,.int .i64 d.par,.string d.nm,.string d.orig,.string d.sub,.string d.drv,.string d.ali,.int .i64 d.kind,.int .i64 d.num,.slice A2 d.attrs.length c2]) rfl (fun w' hS=>by (obtain ⟨u0,u1,u2,u3,u4,u5,u6,u7,u8,u9⟩:=s10_ hS.2.1.1;go_simp)) J.out ?_;try simp only [Act.put,sA_,sB_,sC_]
      refine rd1 9 (o:=⟨some 77,.call ⟨_,_,_⟩,_,_,_,_⟩) rfl (fun K hK=>?_);go_simp;go_at_call 98;refine (RClash_any y d A3 A2 c3 c2 _ (by have:=Ha.out.1;omega) (by have:=Ca.out;omega) (U7.out.next (H0.out.trans (Z2.out.mono H0.out.size)))).mono ?_;rintro e' wg ⟨rfl,E⟩;have Ga:=tb_ Z2 E;have Y7:=Lh_ (show BoxL wg w.heap.size [.slice (some ⟨b3,o3,none⟩) L.length c]∧BoxL wg w1.heap.size [.int .i64 d.idx,.int .i64 d.par,.string d.nm,.string d.orig,.string d.sub,.string d.drv,.string d.ali,.int .i64 d.kind,.int .i64 d.num,.slice A2 d.attrs.length c2]∧DCells wg b3 (o3+k * 10) y A3 c3 from ⟨J.out.1.kept (grown_none E) (fun e=>by cases e),J.out.2.1.kept (grown_none E) (fun e=>by cases e),J.out.2.2.keep E (by have:=P2.out;have:=H0.out.size;have:=Z2.out.size;omega)⟩);clear E;refine hK.out _ _ Y7.out (fun _=>?_);clear hK K;try simp only [Act.put,sA_,sB_,sC_]
      refine tk1 10 78 (.bool (clashB y d)) rfl (fun w' hS=>by go_simp) Y7.out ?_;try simp only [Act.put,sA_,sB_,sC_]
      refine wpAnyH_done (by kernel_rfl) ?_ _;go_wp2_with fail;go_meet;exact ⟨by rw [W2.out],Ga⟩
     case rest =>
     obtain ⟨rfl,hq⟩:=hcut;have E1:=hq.out;have C8:=tb_ Fa E1;clear hq;have HQ:=Lh_ E1;clear E1;have K6:=Lh_ (H0.out.trans (HQ.out.mono H0.out.size));have Ya:=Lh_ (J7.out.kept (grown_none HQ.out) (fun e=>by cases e));have Xa:=Lh_ (H7.out.kept (grown_none HQ.out) (fun e=>by cases e));have R5:=Lh_ (Na.out.kept (grown_none HQ.out) (fun e=>by cases e));cases hbp2:badP L d y with
     | true =>
      have V1:=Lh_ hbp2;clear hbp2;have G0:=R5.out.1 0 _ rfl;have Y:=R5.out.2.1;have HE:=Lh_ (show insE L d=44 by unfold insE;rw [if_neg (by rw [HC.out];decide),if_neg (by rw [S1.out];decide),if_neg HP.out,if_neg HL.out,if_neg HO.out,if_pos (any_stop V6.out V1.out)]);have I0:=Lh_ (show insR L d=[] by unfold insR;rw [HE.out];rfl);go_wp2;refine bodyPost_ret (v:=.tuple #[.agg #[.slice none 0 0],.int .i64 44]) (by simp [results,Tryz.results53,go_sem,G0,Y]) rfl ⟨K6.out.setCell (by have:=A0.out;have:=B0.out;show w.heap.size≤w2.heap.size;omega) _,.slice none 0 0,by rw [HE.out],by rw [I0.out];exact OwnsS.nil_ _ _ _ _⟩
     | false =>
      have V1:=Lh_ hbp2;clear hbp2;by_cases hl0:cv<0
      ·
       have O6:=Lh_ (show atK L (ownL L d) (k+1)=k+1 by rw [A8.out,if_pos (by unfold lessP;rw [U4.out];exact decide_eq_true hl0)]);go_wp2;go_roundw
       case rel=>exact ⟨k+1,by omega,by go_num,by rw [O6.out];go_num,any_take_step B6.out V6.out V1.out,C8⟩
       simp [intOf];omega
      have O6:=Lh_ (show atK L (ownL L d) (k+1)=atK L (ownL L d) k by rw [A8.out,if_neg (by unfold lessP;rw [U4.out,decide_eq_false hl0];decide)]);go_wp2;go_roundw
      case rel=>exact ⟨k+1,by omega,by go_num,by rw [O6.out],any_take_step B6.out V6.out V1.out,C8⟩
      simp [intOf];omega
    have i6:¬ (k:Int)<(L.length:Int):=by omega
    obtain rfl:k=L.length:=by omega
    have C7:atK L (ownL L d) L.length=atN L (ownL L d):=atK_all _ _;have L2:atN L (ownL L d)≤L.length:=by rw [← C7];exact atK_le _ _ _
    have V3:=B6.out;rw [List.take_length] at V3;have HE:=Lh_ (show insE L d=0 by unfold insE;rw [if_neg (by rw [HC.out];decide),if_neg (by rw [S1.out];decide),if_neg HP.out,if_neg HL.out,if_neg HO.out,if_neg (by rw [V3];decide)]);rw [C7];obtain ⟨m,hm⟩:∃ m,atN L (ownL L d)=m:=⟨_,rfl⟩;rw [hm] at L2 ⊢;have HM:=Lh_ hm;clear C7 V3 hm;clear i6;go_upto_region 22 with fail
    obtain ⟨I,G5,Q0,L6,K2⟩:=bx_ wr [.slice none 0 0] 47;try simp only [G5]
    have J6:=tb_ V Q0;have Q4:=kb_ U1 Q0;have J4:=kb_ L4 Q0;have Q5:=kb_ T2 Q0;clear G5 Q0;try rw [← L6.out]
    clear M1 Y;have F:=Lh_ (show (w.heap.size<I.heap.size∧w1.heap.size<I.heap.size)∧w2.heap.size<I.heap.size∧wr.heap.size<I.heap.size from ⟨⟨Q4.out.2.2,J4.out.2.2⟩,Q5.out.2.2,K2.out.2.2⟩);go_cut [] (fun wx=>∃ (W:Option Addr) (X:Nat),Hid (Below w.heap.size w wx∧BoxL wx w2.heap.size [.slice none 0 0]∧OwnsS S wx I.heap.size 84 (.slice W (insL L d).length X) (insL L d)∧BoxL wx wr.heap.size [.slice W (insL L d).length X]))
    case first =>
     refine wp_region_held_drew (S:=fun w'=>BoxL w' w.heap.size [.slice A L.length c]∧BoxL w' w1.heap.size [.int .i64 d.idx,.int .i64 d.par,.string d.nm,.string d.orig,.string d.sub,.string d.drv,.string d.ali,.int .i64 d.kind,.int .i64 d.num,.slice A2 d.attrs.length c2]) (by kernel_rfl) ⟨Q4.out.drew,J4.out.drew⟩ (fun hS0=>?_);obtain ⟨wd,hwd⟩:∃ z,I.drew=z:=⟨_,rfl⟩;rw [hwd] at hS0 ⊢;have M:Below I.heap.size I wd:=by rw [← hwd];exact below_drewN_self _ _ 1
     clear hwd hS0;have Y1:=Lh_ M.size;have O:=tb_ J6 M;have Q:=kb_ Q4 M;have P:=kb_ J4 M;have P1:=kb_ Q5 M;have Z4:=kb_ K2 M;clear M;refine tk1 0 84 (.pointer (some ⟨wr.heap.size,0,none⟩)) rfl (fun w' hS=>by go_simp) ⟨Q.out,P.out⟩ ?_;try simp only [Act.put,sA_,sB_,sC_]
     refine tk1 2 86 (.pointer (some ⟨w.heap.size,0,none⟩)) rfl (fun w' hS=>by go_simp) ⟨Q.out,P.out⟩ ?_;try simp only [Act.put,sA_,sB_,sC_]
     refine tk1 3 87 (.slice A L.length c) rfl (fun w' hS=>by (have u:=hS.1.1 0 _ rfl;go_simp)) ⟨Q.out,P.out⟩ ?_;try simp only [Act.put,sA_,sB_,sC_]
     refine tk1 4 88 (.int .i64 m) rfl (fun w' hS=>by go_simp) ⟨Q.out,P.out⟩ ?_;try simp only [Act.put,sA_,sB_,sC_]
     have Hb:(m:Int)≤(L.length:Int):=by omega
     have Ib:(m:Int)≤(c:Int):=by omega
     have Jb:m≤c:=by omega
     refine tk1 5 89 (.slice A m c) rfl (fun w' hS=>by (rw [← sliced_take (A:=A) (c:=c) (m:=m) (s:=10)];go_simp)) ⟨Q.out,P.out⟩ ?_;try simp only [Act.put,sA_,sB_,sC_]
     refine tk1 7 91 (.agg #[.int .i64 d.idx,.int .i64 d.par,.string d.nm,.string d.orig,.string d.sub,.string d.drv,.string d.ali,.int .i64 d.kind,.int .i64 d.num,.slice A2 d.attrs.length c2]) rfl (fun w' hS=>by (obtain ⟨u0,u1,u2,u3,u4,u5,u6,u7,u8,u9⟩:=s10_ hS.2.1;go_simp)) ⟨Q.out,P.out⟩ ?_;try simp only [Act.put,sA_,sB_,sC_]
     refine tk1 10 94 (.pointer (some ⟨w.heap.size,0,none⟩)) rfl (fun w' hS=>by go_simp) ⟨Q.out,P.out⟩ ?_;try simp only [Act.put,sA_,sB_,sC_]
     refine tk1 11 95 (.slice A L.length c) rfl (fun w' hS=>by (have u:=hS.1.1 0 _ rfl;go_simp)) ⟨Q.out,P.out⟩ ?_;try simp only [Act.put,sA_,sB_,sC_]
     refine tk1 12 96 (.int .i64 m) rfl (fun w' hS=>by go_simp) ⟨Q.out,P.out⟩ ?_;try simp only [Act.put,sA_,sB_,sC_]
     obtain ⟨Ad,hAd⟩:∃ z,(if c=m then A else A.map (·.add (m * 10)))=z:=⟨_,rfl⟩;have S4:=Lh_ hAd;clear hAd;refine tk1 13 97 (.slice Ad (L.length - m) (c - m)) rfl (fun w' hS=>by (rw [show (Value.slice Ad (L.length - m) (c - m))=sliced A m L.length c 10 by unfold sliced;rw [S4.out]];go_simp)) ⟨Q.out,P.out⟩ ?_;try simp only [Act.put,sA_,sB_,sC_]
     refine wpAnyH_ready (rs:=[1,8]) (by kernel_rfl) (by simp) ?_;refine AllReadyH.cons (o:=⟨some 85,.load _ _,_,_,_,_⟩) rfl (fun K hK=>?_) (AllReadyH.cons (o:=⟨some 92,.buildSlice _ _ _,_,_,_,_⟩) rfl (fun K hK=>?_) (AllReadyH.nil))
     ·
      have R2:=Z4.out.1 0 _ rfl;go_simp;refine hK.out _ _ ⟨Q.out,P.out⟩ (fun _=>?_);clear hK K;try simp only [Act.put,sA_,sB_,sC_]
      clear R2;refine wpAnyH_ready (rs:=[6,8]) (by kernel_rfl) (by simp) ?_;refine AllReadyH.cons (o:=⟨some 90,.call ⟨_,_,_⟩,_,_,_,_⟩) rfl (fun K hK=>?_) (AllReadyH.cons (o:=⟨some 92,.buildSlice _ _ _,_,_,_,_⟩) rfl (fun K hK=>?_) (AllReadyH.nil))
      ·
       have K3:=Lh_ (show SlS wd (fun b=>S b∧b<wd.heap.size∧(.slice none 0 0:Value).ownBlock≠some b) A c (L.take m) from ((HX.out.below O.out T.out).take_ L2).mono (fun x hx=>⟨hx,by have:=T.out x hx;have:=O.out.size;omega,fun h=>by cases h⟩) (fun _ _ _ _ hu=>hu));have G:(L.take m).length=m:=by rw [List.length_take];omega
       refine step_app rfl _ _ rfl (.slice none 0 0) (.slice A (L.take m).length c) (by simp [Act.eval,Act.put]) (by rw [G];simp [Act.eval,Act.put]) (run_appL E_dev _ (.slice none 0 0) ([]:List Dev) (OwnsS.nil_ S _ I.heap.size _) A c (L.take m) (.inl K3.out) (by rw [G];have:=N.out;simp only [List.length_nil];unfold maxLen;omega) (by rw [G];have:=N.out;simp only [List.length_nil];omega) Y1.out) ?_;rintro v1 q12 ⟨C,D,H⟩;rw [List.nil_append] at C;have B:∀ k,(.slice none 0 0:Value).ownBlock=some k→I.heap.size≤k:=fun k R=>((OwnsS.nil_ S wd I.heap.size 84:OwnsS S wd I.heap.size 84 (.slice none 0 0) ([]:List Dev)).lt k R).1
       have F6:=Lh_ (show Below w.heap.size w q12 from below_own O.out D O.out.size (fun k R=>by have:=B k R;have:=F.out.1.1;omega));have S5:=Lh_ (Q.out.kept D (fun e=>by have:=B _ e.symm;have:=F.out.1.1;omega));have I5:=Lh_ (P.out.kept D (fun e=>by have:=B _ e.symm;have:=F.out.1.2;omega));have D9:=Lh_ (P1.out.kept D (fun e=>by have:=B _ e.symm;have:=F.out.2.1;omega));have O8:=Lh_ (Z4.out.kept D (fun e=>by have:=B _ e.symm;have:=F.out.2.2;omega));have W4:=Lh_ (show I.heap.size≤q12.heap.size from Nat.le_trans Y1.out D.size);have I3:=Lh_ C;clear C D H B;refine hK.out _ _ ⟨S5.out,I5.out⟩ (fun _=>?_);clear hK K;try simp only [Act.put,sA_,sB_,sC_]
       refine rd1 8 (o:=⟨some 92,.buildSlice _ _ _,_,_,_,_⟩) rfl (fun K hK=>?_);go_simp;obtain ⟨q13,hq13⟩:∃ z,q12.alloc (.cells #[.int .i64 d.idx,.int .i64 d.par,.string d.nm,.string d.orig,.string d.sub,.string d.drv,.string d.ali,.int .i64 d.kind,.int .i64 d.num,.slice A2 d.attrs.length c2] 84)=z:=⟨_,rfl⟩;have E:Below q12.heap.size q12 q13:=by rw [← hq13];exact (Below.refl _ _).alloc (Nat.le_refl _) _
       have X6:=Lh_ (show BoxL q13 q12.heap.size (devCells d A2 c2) from box_mk hq13);try rw [hq13]
       clear hq13;have K0:=Lh_ (I3.out.below E);have Z1:=Lh_ (show I.heap.size≤q13.heap.size from Nat.le_trans W4.out E.size);have W0:=tb_ F6 E;have T5:=kb_ S5 E;have J5:=kb_ I5 E;have E9:=kb_ D9 E;have P8:=kb_ O8 E;clear E;refine hK.out _ _ ⟨T5.out,J5.out⟩ (fun _=>?_);clear hK K;try simp only [Act.put,sA_,sB_,sC_]
       refine rd1 9 (o:=⟨some 93,.call ⟨_,_,_⟩,_,_,_,_⟩) rfl (fun K hK=>?_);have J3:=Lh_ (show RepS.rdS q13 (fun b=>S b∧b<q13.heap.size∧v1.ownBlock≠some b) d (devCells d A2 c2) from ⟨A2,c2,rfl,HD.out,(HA.out.below W0.out T.out).mono (fun x hx=>⟨hx,by have:=T.out x hx;have:=W0.out.size;omega,fun h=>by have:=(K0.out.lt _ h).1;have:=T.out x hx;have:=F.out.1.1;omega⟩) (fun _ _ _ _ hu=>hu)⟩);have G:(L.take m).length=m:=by rw [List.length_take];omega
       refine step_app rfl _ _ rfl v1 (.slice (some ⟨q12.heap.size,0,none⟩) 1 1) (by simp [Act.eval,Act.put]) (by simp [Act.eval,Act.put]) (run_app1 E_dev _ v1 (L.take m) K0.out q12.heap.size d (devCells d A2 c2) X6.out.1 J3.out (by rw [G];have:=N.out;unfold maxLen;omega) (by rw [G];have:=N.out;omega) Z1.out) ?_;rintro v2 q14 ⟨C,D,H⟩;have B:∀ k,(v1:Value).ownBlock=some k→I.heap.size≤k:=fun k R=>(K0.out.lt k R).1
       have X0:=Lh_ (show Below w.heap.size w q14 from below_own W0.out D W0.out.size (fun k R=>by have:=B k R;have:=F.out.1.1;omega));have U5:=Lh_ (T5.out.kept D (fun e=>by have:=B _ e.symm;have:=F.out.1.1;omega));have K5:=Lh_ (J5.out.kept D (fun e=>by have:=B _ e.symm;have:=F.out.1.2;omega));have F9:=Lh_ (E9.out.kept D (fun e=>by have:=B _ e.symm;have:=F.out.2.1;omega));have Q8:=Lh_ (P8.out.kept D (fun e=>by have:=B _ e.symm;have:=F.out.2.2;omega));have B2:=Lh_ (show I.heap.size≤q14.heap.size from Nat.le_trans Z1.out D.size);have L0:=Lh_ C;clear C D H B;refine hK.out _ _ ⟨U5.out,K5.out⟩ (fun _=>?_);clear hK K;try simp only [Act.put,sA_,sB_,sC_]
       refine rd1 14 (o:=⟨some 98,.call ⟨_,_,_⟩,_,_,_,_⟩) rfl (fun K hK=>?_);have R0:(L.drop m).length=L.length - m:=List.length_drop;have I1:=Lh_ (show SlS q14 (fun b=>S b∧b<q14.heap.size∧v2.ownBlock≠some b) Ad (c - m) (L.drop m)∨L.drop m=[] by
        rw [← S4.out];exact (SlS.drop_ (HX.out.below X0.out T.out) (m:=m)).imp (fun h=>h.mono (fun x hx=>⟨hx,by have:=T.out x hx;have:=X0.out.size;omega,fun h=>by have:=(L0.out.lt _ h).1;have:=T.out x hx;have:=F.out.1.1;omega⟩) (fun _ _ _ _ hu=>hu)) id)
       have G:(L.take m ++ [d]).length=m+1:=by rw [List.length_append,List.length_take,List.length_singleton];omega
       refine step_app rfl _ _ rfl v2 (.slice Ad (L.drop m).length (c - m)) (by simp [Act.eval,Act.put]) (by rw [R0];simp [Act.eval,Act.put]) (run_appL E_dev _ v2 (L.take m ++ [d]) L0.out _ (c - m) (L.drop m) I1.out (by rw [G,R0];have:=N.out;unfold maxLen;omega) (by rw [G,R0];have:=N.out;omega) B2.out) ?_;rintro v3 q15 ⟨C,D,H⟩;have O1:(L.take m ++ [d]) ++ L.drop m=insL L d:=by unfold insL;rw [HM.out,List.append_assoc];rfl
       rw [O1] at C;have B:∀ k,(v2:Value).ownBlock=some k→I.heap.size≤k:=fun k R=>(L0.out.lt k R).1
       have G6:=Lh_ (show Below w.heap.size w q15 from below_own X0.out D X0.out.size (fun k R=>by have:=B k R;have:=F.out.1.1;omega));have M4:=Lh_ (U5.out.kept D (fun e=>by have:=B _ e.symm;have:=F.out.1.1;omega));have F4:=Lh_ (K5.out.kept D (fun e=>by have:=B _ e.symm;have:=F.out.1.2;omega));have G9:=Lh_ (F9.out.kept D (fun e=>by have:=B _ e.symm;have:=F.out.2.1;omega));have C4:=Lh_ (Q8.out.kept D (fun e=>by have:=B _ e.symm;have:=F.out.2.2;omega));have Z9:=Lh_ (show I.heap.size≤q15.heap.size from Nat.le_trans B2.out D.size);have F1:=Lh_ C;clear C D H B;obtain ⟨W,X,C0,-⟩:=F1.out.sl;subst C0;refine hK.out _ _ ⟨M4.out,F4.out⟩ (fun _=>?_);clear hK K;try simp only [Act.put,sA_,sB_,sC_]
       refine tk1 15 99 (.pointer (some ⟨wr.heap.size,0,none⟩)) rfl (fun w' hS=>by go_simp) ⟨M4.out,F4.out⟩ ?_;try simp only [Act.put,sA_,sB_,sC_]
       have R2:=C4.out.1 0 _ rfl;have D8:=C4.out.2.1;have Q1:=Lh_ (show Below w.heap.size w (q15.setCell ⟨wr.heap.size,0,none⟩ (.slice W (insL L d).length X)) from G6.out.setCell (by show w.heap.size≤wr.heap.size;exact V.out.size) _);have E0:wr.heap.size≠w.heap.size∧wr.heap.size≠w1.heap.size∧wr.heap.size≠w2.heap.size:=by have:=U1.out.2.2;have:=L4.out.2.2;have:=T2.out.2.2;omega
       have J0:=Lh_ E0;clear E0;have D3:=Lh_ (G9.out.far (g':=wr.heap.size) (j:=0) J0.out.2.2 (.slice W (insL L d).length X));have B3:=Lh_ (show BoxL (q15.setCell ⟨wr.heap.size,0,none⟩ (.slice W (insL L d).length X)) wr.heap.size [.slice W (insL L d).length X] from C4.out.set_ (j:=0) (by simp) _);have E3:=Lh_ (M4.out.far (g':=wr.heap.size) (j:=0) J0.out.1 (.slice W (insL L d).length X));have C3:=Lh_ (F4.out.far (g':=wr.heap.size) (j:=0) J0.out.2.1 (.slice W (insL L d).length X));have R1:=Lh_ (F1.out.grownb (grown_one q15 wr.heap.size 0 (.slice W (insL L d).length X)) (fun x hx=>by have:=T.out x hx;have:=V.out.size;omega) F.out.2.2);refine rd1 16 (o:=⟨none,.store _ _ _,_,_,_,_⟩) rfl (fun K hK=>?_);go_simp;refine hK.out _ _ ⟨E3.out,C3.out⟩ (fun _=>?_);clear hK K;try simp only [Act.put,sA_,sB_,sC_]
       refine wpAnyH_done (by kernel_rfl) ?_ _;go_wp2_with fail;go_meet;exact ⟨W,X,Q1.out,D3.out,R1.out,B3.out⟩
      go_simp;obtain ⟨q16,hq16⟩:∃ z,wd.alloc (.cells #[.int .i64 d.idx,.int .i64 d.par,.string d.nm,.string d.orig,.string d.sub,.string d.drv,.string d.ali,.int .i64 d.kind,.int .i64 d.num,.slice A2 d.attrs.length c2] 84)=z:=⟨_,rfl⟩;have E:Below wd.heap.size wd q16:=by rw [← hq16];exact (Below.refl _ _).alloc (Nat.le_refl _) _
      have Y6:=Lh_ (show BoxL q16 wd.heap.size (devCells d A2 c2) from box_mk hq16);try rw [hq16]
      clear hq16;have C2:=Lh_ (show I.heap.size≤q16.heap.size from Nat.le_trans Y1.out E.size);have Y0:=tb_ O E;have V5:=kb_ Q E;have L5:=kb_ P E;have H9:=kb_ P1 E;have R8:=kb_ Z4 E;clear E;refine hK.out _ _ ⟨V5.out,L5.out⟩ (fun _=>?_);clear hK K;try simp only [Act.put,sA_,sB_,sC_]
      refine rd1 6 (o:=⟨some 90,.call ⟨_,_,_⟩,_,_,_,_⟩) rfl (fun K hK=>?_);have K3:=Lh_ (show SlS q16 (fun b=>S b∧b<q16.heap.size∧(.slice none 0 0:Value).ownBlock≠some b) A c (L.take m) from ((HX.out.below Y0.out T.out).take_ L2).mono (fun x hx=>⟨hx,by have:=T.out x hx;have:=Y0.out.size;omega,fun h=>by cases h⟩) (fun _ _ _ _ hu=>hu));have G:(L.take m).length=m:=by rw [List.length_take];omega
      refine step_app rfl _ _ rfl (.slice none 0 0) (.slice A (L.take m).length c) (by simp [Act.eval,Act.put]) (by rw [G];simp [Act.eval,Act.put]) (run_appL E_dev _ (.slice none 0 0) ([]:List Dev) (OwnsS.nil_ S _ I.heap.size _) A c (L.take m) (.inl K3.out) (by rw [G];have:=N.out;simp only [List.length_nil];unfold maxLen;omega) (by rw [G];have:=N.out;simp only [List.length_nil];omega) C2.out) ?_;rintro v1 q17 ⟨C,D,H⟩;rw [List.nil_append] at C;have B:∀ k,(.slice none 0 0:Value).ownBlock=some k→I.heap.size≤k:=fun k R=>((OwnsS.nil_ S q16 I.heap.size 84:OwnsS S q16 I.heap.size 84 (.slice none 0 0) ([]:List Dev)).lt k R).1
      have Z0:=Lh_ (show Below w.heap.size w q17 from below_own Y0.out D Y0.out.size (fun k R=>by have:=B k R;have:=F.out.1.1;omega));have W5:=Lh_ (V5.out.kept D (fun e=>by have:=B _ e.symm;have:=F.out.1.1;omega));have M5:=Lh_ (L5.out.kept D (fun e=>by have:=B _ e.symm;have:=F.out.1.2;omega));have I9:=Lh_ (H9.out.kept D (fun e=>by have:=B _ e.symm;have:=F.out.2.1;omega));have S8:=Lh_ (R8.out.kept D (fun e=>by have:=B _ e.symm;have:=F.out.2.2;omega));have M6:=Lh_ (Y6.out.kept D (fun e=>by cases e));have D2:=Lh_ (show I.heap.size≤q17.heap.size from Nat.le_trans C2.out D.size);have M0:=Lh_ C;clear C D H B;refine hK.out _ _ ⟨W5.out,M5.out⟩ (fun _=>?_);clear hK K;try simp only [Act.put,sA_,sB_,sC_]
      refine rd1 9 (o:=⟨some 93,.call ⟨_,_,_⟩,_,_,_,_⟩) rfl (fun K hK=>?_);have J3:=Lh_ (show RepS.rdS q17 (fun b=>S b∧b<q17.heap.size∧v1.ownBlock≠some b) d (devCells d A2 c2) from ⟨A2,c2,rfl,HD.out,(HA.out.below Z0.out T.out).mono (fun x hx=>⟨hx,by have:=T.out x hx;have:=Z0.out.size;omega,fun h=>by have:=(M0.out.lt _ h).1;have:=T.out x hx;have:=F.out.1.1;omega⟩) (fun _ _ _ _ hu=>hu)⟩);have G:(L.take m).length=m:=by rw [List.length_take];omega
      refine step_app rfl _ _ rfl v1 (.slice (some ⟨wd.heap.size,0,none⟩) 1 1) (by simp [Act.eval,Act.put]) (by simp [Act.eval,Act.put]) (run_app1 E_dev _ v1 (L.take m) M0.out wd.heap.size d (devCells d A2 c2) M6.out.1 J3.out (by rw [G];have:=N.out;unfold maxLen;omega) (by rw [G];have:=N.out;omega) D2.out) ?_;rintro v2 q18 ⟨C,D,H⟩;have B:∀ k,(v1:Value).ownBlock=some k→I.heap.size≤k:=fun k R=>(M0.out.lt k R).1
      have A1:=Lh_ (show Below w.heap.size w q18 from below_own Z0.out D Z0.out.size (fun k R=>by have:=B k R;have:=F.out.1.1;omega));have X5:=Lh_ (W5.out.kept D (fun e=>by have:=B _ e.symm;have:=F.out.1.1;omega));have N5:=Lh_ (M5.out.kept D (fun e=>by have:=B _ e.symm;have:=F.out.1.2;omega));have J9:=Lh_ (I9.out.kept D (fun e=>by have:=B _ e.symm;have:=F.out.2.1;omega));have T8:=Lh_ (S8.out.kept D (fun e=>by have:=B _ e.symm;have:=F.out.2.2;omega));have E2:=Lh_ (show I.heap.size≤q18.heap.size from Nat.le_trans D2.out D.size);have N0:=Lh_ C;clear C D H B;refine hK.out _ _ ⟨X5.out,N5.out⟩ (fun _=>?_);clear hK K;try simp only [Act.put,sA_,sB_,sC_]
      refine rd1 14 (o:=⟨some 98,.call ⟨_,_,_⟩,_,_,_,_⟩) rfl (fun K hK=>?_);have R0:(L.drop m).length=L.length - m:=List.length_drop;have I1:=Lh_ (show SlS q18 (fun b=>S b∧b<q18.heap.size∧v2.ownBlock≠some b) Ad (c - m) (L.drop m)∨L.drop m=[] by
       rw [← S4.out];exact (SlS.drop_ (HX.out.below A1.out T.out) (m:=m)).imp (fun h=>h.mono (fun x hx=>⟨hx,by have:=T.out x hx;have:=A1.out.size;omega,fun h=>by have:=(N0.out.lt _ h).1;have:=T.out x hx;have:=F.out.1.1;omega⟩) (fun _ _ _ _ hu=>hu)) id)
      have G:(L.take m ++ [d]).length=m+1:=by rw [List.length_append,List.length_take,List.length_singleton];omega
      refine step_app rfl _ _ rfl v2 (.slice Ad (L.drop m).length (c - m)) (by simp [Act.eval,Act.put]) (by rw [R0];simp [Act.eval,Act.put]) (run_appL E_dev _ v2 (L.take m ++ [d]) N0.out _ (c - m) (L.drop m) I1.out (by rw [G,R0];have:=N.out;unfold maxLen;omega) (by rw [G,R0];have:=N.out;omega) E2.out) ?_;rintro v3 q19 ⟨C,D,H⟩;have O1:(L.take m ++ [d]) ++ L.drop m=insL L d:=by unfold insL;rw [HM.out,List.append_assoc];rfl
      rw [O1] at C;have B:∀ k,(v2:Value).ownBlock=some k→I.heap.size≤k:=fun k R=>(N0.out.lt k R).1
      have H6:=Lh_ (show Below w.heap.size w q19 from below_own A1.out D A1.out.size (fun k R=>by have:=B k R;have:=F.out.1.1;omega));have N4:=Lh_ (X5.out.kept D (fun e=>by have:=B _ e.symm;have:=F.out.1.1;omega));have G4:=Lh_ (N5.out.kept D (fun e=>by have:=B _ e.symm;have:=F.out.1.2;omega));have K9:=Lh_ (J9.out.kept D (fun e=>by have:=B _ e.symm;have:=F.out.2.1;omega));have D4:=Lh_ (T8.out.kept D (fun e=>by have:=B _ e.symm;have:=F.out.2.2;omega));have Aa:=Lh_ (show I.heap.size≤q19.heap.size from Nat.le_trans E2.out D.size);have G1:=Lh_ C;clear C D H B;obtain ⟨W,X,C0,-⟩:=G1.out.sl;subst C0;refine hK.out _ _ ⟨N4.out,G4.out⟩ (fun _=>?_);clear hK K;try simp only [Act.put,sA_,sB_,sC_]
      refine tk1 15 99 (.pointer (some ⟨wr.heap.size,0,none⟩)) rfl (fun w' hS=>by go_simp) ⟨N4.out,G4.out⟩ ?_;try simp only [Act.put,sA_,sB_,sC_]
      have R2:=D4.out.1 0 _ rfl;have D8:=D4.out.2.1;have Q1:=Lh_ (show Below w.heap.size w (q19.setCell ⟨wr.heap.size,0,none⟩ (.slice W (insL L d).length X)) from H6.out.setCell (by show w.heap.size≤wr.heap.size;exact V.out.size) _);have E0:wr.heap.size≠w.heap.size∧wr.heap.size≠w1.heap.size∧wr.heap.size≠w2.heap.size:=by have:=U1.out.2.2;have:=L4.out.2.2;have:=T2.out.2.2;omega
      have J0:=Lh_ E0;clear E0;have D3:=Lh_ (K9.out.far (g':=wr.heap.size) (j:=0) J0.out.2.2 (.slice W (insL L d).length X));have B3:=Lh_ (show BoxL (q19.setCell ⟨wr.heap.size,0,none⟩ (.slice W (insL L d).length X)) wr.heap.size [.slice W (insL L d).length X] from D4.out.set_ (j:=0) (by simp) _);have E3:=Lh_ (N4.out.far (g':=wr.heap.size) (j:=0) J0.out.1 (.slice W (insL L d).length X));have C3:=Lh_ (G4.out.far (g':=wr.heap.size) (j:=0) J0.out.2.1 (.slice W (insL L d).length X));have R1:=Lh_ (G1.out.grownb (grown_one q19 wr.heap.size 0 (.slice W (insL L d).length X)) (fun x hx=>by have:=T.out x hx;have:=V.out.size;omega) F.out.2.2);refine rd1 16 (o:=⟨none,.store _ _ _,_,_,_,_⟩) rfl (fun K hK=>?_);go_simp;refine hK.out _ _ ⟨E3.out,C3.out⟩ (fun _=>?_);clear hK K;try simp only [Act.put,sA_,sB_,sC_]
      refine wpAnyH_done (by kernel_rfl) ?_ _;go_wp2_with fail;go_meet;exact ⟨W,X,Q1.out,D3.out,R1.out,B3.out⟩
     go_simp;obtain ⟨q20,hq20⟩:∃ z,wd.alloc (.cells #[.int .i64 d.idx,.int .i64 d.par,.string d.nm,.string d.orig,.string d.sub,.string d.drv,.string d.ali,.int .i64 d.kind,.int .i64 d.num,.slice A2 d.attrs.length c2] 84)=z:=⟨_,rfl⟩;have E:Below wd.heap.size wd q20:=by rw [← hq20];exact (Below.refl _ _).alloc (Nat.le_refl _) _
     have Z6:=Lh_ (show BoxL q20 wd.heap.size (devCells d A2 c2) from box_mk hq20);try rw [hq20]
     clear hq20;have F2:=Lh_ (show I.heap.size≤q20.heap.size from Nat.le_trans Y1.out E.size);have B1:=tb_ O E;have O4:=kb_ Q E;have H4:=kb_ P E;have L9:=kb_ P1 E;have H5:=kb_ Z4 E;clear E;refine hK.out _ _ ⟨O4.out,H4.out⟩ (fun _=>?_);clear hK K;try simp only [Act.put,sA_,sB_,sC_]
     refine rd1 1 (o:=⟨some 85,.load _ _,_,_,_,_⟩) rfl (fun K hK=>?_);have R2:=H5.out.1 0 _ rfl;go_simp;refine hK.out _ _ ⟨O4.out,H4.out⟩ (fun _=>?_);clear hK K;try simp only [Act.put,sA_,sB_,sC_]
     clear R2;refine rd1 6 (o:=⟨some 90,.call ⟨_,_,_⟩,_,_,_,_⟩) rfl (fun K hK=>?_);have K3:=Lh_ (show SlS q20 (fun b=>S b∧b<q20.heap.size∧(.slice none 0 0:Value).ownBlock≠some b) A c (L.take m) from ((HX.out.below B1.out T.out).take_ L2).mono (fun x hx=>⟨hx,by have:=T.out x hx;have:=B1.out.size;omega,fun h=>by cases h⟩) (fun _ _ _ _ hu=>hu));have G:(L.take m).length=m:=by rw [List.length_take];omega
     refine step_app rfl _ _ rfl (.slice none 0 0) (.slice A (L.take m).length c) (by simp [Act.eval,Act.put]) (by rw [G];simp [Act.eval,Act.put]) (run_appL E_dev _ (.slice none 0 0) ([]:List Dev) (OwnsS.nil_ S _ I.heap.size _) A c (L.take m) (.inl K3.out) (by rw [G];have:=N.out;simp only [List.length_nil];unfold maxLen;omega) (by rw [G];have:=N.out;simp only [List.length_nil];omega) F2.out) ?_;rintro v1 q21 ⟨C,D,H⟩;rw [List.nil_append] at C;have B:∀ k,(.slice none 0 0:Value).ownBlock=some k→I.heap.size≤k:=fun k R=>((OwnsS.nil_ S q20 I.heap.size 84:OwnsS S q20 I.heap.size 84 (.slice none 0 0) ([]:List Dev)).lt k R).1
     have C1:=Lh_ (show Below w.heap.size w q21 from below_own B1.out D B1.out.size (fun k R=>by have:=B k R;have:=F.out.1.1;omega));have Y5:=Lh_ (O4.out.kept D (fun e=>by have:=B _ e.symm;have:=F.out.1.1;omega));have O5:=Lh_ (H4.out.kept D (fun e=>by have:=B _ e.symm;have:=F.out.1.2;omega));have M9:=Lh_ (L9.out.kept D (fun e=>by have:=B _ e.symm;have:=F.out.2.1;omega));have U8:=Lh_ (H5.out.kept D (fun e=>by have:=B _ e.symm;have:=F.out.2.2;omega));have N6:=Lh_ (Z6.out.kept D (fun e=>by cases e));have G2:=Lh_ (show I.heap.size≤q21.heap.size from Nat.le_trans F2.out D.size);have O0:=Lh_ C;clear C D H B;refine hK.out _ _ ⟨Y5.out,O5.out⟩ (fun _=>?_);clear hK K;try simp only [Act.put,sA_,sB_,sC_]
     refine rd1 9 (o:=⟨some 93,.call ⟨_,_,_⟩,_,_,_,_⟩) rfl (fun K hK=>?_);have J3:=Lh_ (show RepS.rdS q21 (fun b=>S b∧b<q21.heap.size∧v1.ownBlock≠some b) d (devCells d A2 c2) from ⟨A2,c2,rfl,HD.out,(HA.out.below C1.out T.out).mono (fun x hx=>⟨hx,by have:=T.out x hx;have:=C1.out.size;omega,fun h=>by have:=(O0.out.lt _ h).1;have:=T.out x hx;have:=F.out.1.1;omega⟩) (fun _ _ _ _ hu=>hu)⟩);have G:(L.take m).length=m:=by rw [List.length_take];omega
     refine step_app rfl _ _ rfl v1 (.slice (some ⟨wd.heap.size,0,none⟩) 1 1) (by simp [Act.eval,Act.put]) (by simp [Act.eval,Act.put]) (run_app1 E_dev _ v1 (L.take m) O0.out wd.heap.size d (devCells d A2 c2) N6.out.1 J3.out (by rw [G];have:=N.out;unfold maxLen;omega) (by rw [G];have:=N.out;omega) G2.out) ?_;rintro v2 q22 ⟨C,D,H⟩;have B:∀ k,(v1:Value).ownBlock=some k→I.heap.size≤k:=fun k R=>(O0.out.lt k R).1
     have D1:=Lh_ (show Below w.heap.size w q22 from below_own C1.out D C1.out.size (fun k R=>by have:=B k R;have:=F.out.1.1;omega));have Z5:=Lh_ (Y5.out.kept D (fun e=>by have:=B _ e.symm;have:=F.out.1.1;omega));have P5:=Lh_ (O5.out.kept D (fun e=>by have:=B _ e.symm;have:=F.out.1.2;omega));have N9:=Lh_ (M9.out.kept D (fun e=>by have:=B _ e.symm;have:=F.out.2.1;omega));have V8:=Lh_ (U8.out.kept D (fun e=>by have:=B _ e.symm;have:=F.out.2.2;omega));have H2:=Lh_ (show I.heap.size≤q22.heap.size from Nat.le_trans G2.out D.size);have P0:=Lh_ C;clear C D H B;refine hK.out _ _ ⟨Z5.out,P5.out⟩ (fun _=>?_);clear hK K;try simp only [Act.put,sA_,sB_,sC_]
     refine rd1 14 (o:=⟨some 98,.call ⟨_,_,_⟩,_,_,_,_⟩) rfl (fun K hK=>?_);have R0:(L.drop m).length=L.length - m:=List.length_drop;have I1:=Lh_ (show SlS q22 (fun b=>S b∧b<q22.heap.size∧v2.ownBlock≠some b) Ad (c - m) (L.drop m)∨L.drop m=[] by
      rw [← S4.out];exact (SlS.drop_ (HX.out.below D1.out T.out) (m:=m)).imp (fun h=>h.mono (fun x hx=>⟨hx,by have:=T.out x hx;have:=D1.out.size;omega,fun h=>by have:=(P0.out.lt _ h).1;have:=T.out x hx;have:=F.out.1.1;omega⟩) (fun _ _ _ _ hu=>hu)) id)
     have G:(L.take m ++ [d]).length=m+1:=by rw [List.length_append,List.length_take,List.length_singleton];omega
     refine step_app rfl _ _ rfl v2 (.slice Ad (L.drop m).length (c - m)) (by simp [Act.eval,Act.put]) (by rw [R0];simp [Act.eval,Act.put]) (run_appL E_dev _ v2 (L.take m ++ [d]) P0.out _ (c - m) (L.drop m) I1.out (by rw [G,R0];have:=N.out;unfold maxLen;omega) (by rw [G,R0];have:=N.out;omega) H2.out) ?_;rintro v3 q23 ⟨C,D,H⟩;have O1:(L.take m ++ [d]) ++ L.drop m=insL L d:=by unfold insL;rw [HM.out,List.append_assoc];rfl
     rw [O1] at C;have B:∀ k,(v2:Value).ownBlock=some k→I.heap.size≤k:=fun k R=>(P0.out.lt k R).1
     have I6:=Lh_ (show Below w.heap.size w q23 from below_own D1.out D D1.out.size (fun k R=>by have:=B k R;have:=F.out.1.1;omega));have P4:=Lh_ (Z5.out.kept D (fun e=>by have:=B _ e.symm;have:=F.out.1.1;omega));have I4:=Lh_ (P5.out.kept D (fun e=>by have:=B _ e.symm;have:=F.out.1.2;omega));have O9:=Lh_ (N9.out.kept D (fun e=>by have:=B _ e.symm;have:=F.out.2.1;omega));have E4:=Lh_ (V8.out.kept D (fun e=>by have:=B _ e.symm;have:=F.out.2.2;omega));have Ba:=Lh_ (show I.heap.size≤q23.heap.size from Nat.le_trans H2.out D.size);have H1:=Lh_ C;clear C D H B;obtain ⟨W,X,C0,-⟩:=H1.out.sl;subst C0;refine hK.out _ _ ⟨P4.out,I4.out⟩ (fun _=>?_);clear hK K;try simp only [Act.put,sA_,sB_,sC_]
     refine tk1 15 99 (.pointer (some ⟨wr.heap.size,0,none⟩)) rfl (fun w' hS=>by go_simp) ⟨P4.out,I4.out⟩ ?_;try simp only [Act.put,sA_,sB_,sC_]
     have R2:=E4.out.1 0 _ rfl;have D8:=E4.out.2.1;have Q1:=Lh_ (show Below w.heap.size w (q23.setCell ⟨wr.heap.size,0,none⟩ (.slice W (insL L d).length X)) from I6.out.setCell (by show w.heap.size≤wr.heap.size;exact V.out.size) _);have E0:wr.heap.size≠w.heap.size∧wr.heap.size≠w1.heap.size∧wr.heap.size≠w2.heap.size:=by have:=U1.out.2.2;have:=L4.out.2.2;have:=T2.out.2.2;omega
     have J0:=Lh_ E0;clear E0;have D3:=Lh_ (O9.out.far (g':=wr.heap.size) (j:=0) J0.out.2.2 (.slice W (insL L d).length X));have B3:=Lh_ (show BoxL (q23.setCell ⟨wr.heap.size,0,none⟩ (.slice W (insL L d).length X)) wr.heap.size [.slice W (insL L d).length X] from E4.out.set_ (j:=0) (by simp) _);have E3:=Lh_ (P4.out.far (g':=wr.heap.size) (j:=0) J0.out.1 (.slice W (insL L d).length X));have C3:=Lh_ (I4.out.far (g':=wr.heap.size) (j:=0) J0.out.2.1 (.slice W (insL L d).length X));have R1:=Lh_ (H1.out.grownb (grown_one q23 wr.heap.size 0 (.slice W (insL L d).length X)) (fun x hx=>by have:=T.out x hx;have:=V.out.size;omega) F.out.2.2);refine rd1 16 (o:=⟨none,.store _ _ _,_,_,_,_⟩) rfl (fun K hK=>?_);go_simp;refine hK.out _ _ ⟨E3.out,C3.out⟩ (fun _=>?_);clear hK K;try simp only [Act.put,sA_,sB_,sC_]
     refine wpAnyH_done (by kernel_rfl) ?_ _;go_wp2_with fail;go_meet;exact ⟨W,X,Q1.out,D3.out,R1.out,B3.out⟩
    case rest =>
    obtain ⟨W,X,hq⟩:=hcut;obtain ⟨F8,D7,H8,G8⟩:=hq.out;clear hq;have n0:=G8.1 0 _ rfl;have r0:=D7.1 0 _ rfl;have rf:=D7.2.1;have Q1:=Lh_ F8;have R1:=Lh_ H8;clear F8 H8 G8 D7;have HR:=Lh_ (show insR L d=insL L d by unfold insR;rw [HE.out];rfl);go_wp2;refine bodyPost_ret (v:=.tuple #[.agg #[.slice W (insL L d).length X],.int .i64 0]) (by simp [results,Tryz.results53,go_sem,r0,rf]) rfl ⟨Q1.out.setCell (by have:=A0.out;have:=B0.out;show w.heap.size≤w2.heap.size;omega) _,_,by rw [HE.out],?_⟩;rw [HR.out];exact (R1.out.grownb (grown_one wc w2.heap.size 0 _) (fun x hx=>by have:=T.out x hx;have:=A0.out;have:=B0.out;omega) F.out.2.1).low (by have:=F.out.1.1;omega)
 have ec:(checkD d != 0)=true:=by simpa using hc
 have HC:=Lh_ hc;clear hc;have HE:=Lh_ (show insE L d=41 by unfold insE;rw [if_pos HC.out]);have I0:=Lh_ (show insR L d=[] by unfold insR;rw [HE.out];rfl);go_wp2;refine bodyPost_ret (v:=.tuple #[.agg #[.slice none 0 0],.int .i64 41]) (by simp [results,Tryz.results53,go_sem,G0,Y]) rfl ⟨D0.out.setCell (by have:=A0.out;have:=B0.out;show w.heap.size≤w2.heap.size;omega) _,.slice none 0 0,by rw [HE.out],by rw [I0.out];exact OwnsS.nil_ _ _ _ _⟩
end Go.Proofs.YtjpoljlgkgmdkaaGreatDoor
namespace Go.Cold
open Go Go.RowKit
def Shut (L:List Dev) (p:Dev→Bool):Prop:=∀ d ∈ L,p d=true→∀ e ∈ L,e.idx=d.par→p e=true
end Go.Cold
namespace Go.Cold
open Go Go.RowKit
end Go.Cold
namespace Go.Cold
open Go Go.RowKit
def FreeS {α:Type} [RepS α] (N:Nat→Prop) (w:World) (A:Option Addr) (c:Nat) (l:List α):Prop:=SlS w (fun x=>x<w.heap.size∧¬ N x) A c l
section
variable {α:Type} [RepS α] {N N' F:Nat→Prop} {w w':World} {A:Option Addr} {c q base:Nat} {T:TypeId} {v:Value} {l:List α}
theorem FreeS.below (h:FreeS N w A c l) (hb:Below w.heap.size w w'):FreeS N w' A c l :=
 SlS.mono (fun x hx=>⟨Nat.lt_of_lt_of_le hx.1 hb.size,hx.2⟩) (fun _ _ _ _ hu=>hu) (SlS.below h hb (fun x hx=>hx.1))
theorem FreeS.grown (h:FreeS N w A c l) (hg:w.grownBy w' (some q)) (hq:N q∨w.heap.size≤q):FreeS N w' A c l :=
 SlS.mono (fun x hx=>⟨Nat.lt_of_lt_of_le hx.1 hg.size,hx.2⟩) (fun b o u hb hu=>hg.cell hu (fun e=>by have e:b=q:=Option.some.inj e;subst e;rcases hq with h1 | h1;exact hb.2 h1;have:=hb.1;omega)) h
theorem FreeS.set_ (h:FreeS N w A c l) (hq:N q) (j:Nat) (v:Value):FreeS N (w.setCell ⟨q,j,none⟩ v) A c l:=h.grown (grown_one w q j v) (.inl hq)
theorem FreeS.out (h:FreeS N w A c l):Sl w w.heap.size A c l:=SlS.sl h (fun x hx=>hx.1)
theorem FreeS.more (h:FreeS N w A c l) (hN:∀ x,x<w.heap.size→N' x→N x):FreeS N' w A c l:=SlS.mono (fun x hx=>⟨hx.1,fun h1=>hx.2 (hN x hx.1 h1)⟩) (fun _ _ _ _ hu=>hu) h
theorem FreeS.nil_:FreeS N w none 0 ([]:List α):=⟨by simp,by simp [maxLen],fun h=>absurd h (by simp)⟩
theorem OwnsS.free (h:OwnsS F w base T v l) (hN:∀ x,N x→x<base∧¬ F x):∃ A c,v=.slice A l.length c∧FreeS N w A c l:=by
 obtain ⟨A,c,B,C⟩:=h.cs;exact ⟨A,c,B,SlS.mono (fun x hx=>⟨hx.2,fun hn=>by obtain ⟨D,h4⟩:=hN x hn;rcases hx.1 with h5 | h5;exact h4 h5;omega⟩) (fun _ _ _ _ hu=>hu) C⟩
theorem SlS.free {S:Nat→Prop} (h:SlS w S A c l) (hS:∀ x,S x→x<w.heap.size∧¬ N x):FreeS N w A c l:=SlS.mono hS (fun _ _ _ _ hu=>hu) h
end
theorem below_next {a b c:World} (h:Below a.heap.size a b) (k:Below b.heap.size b c):Below a.heap.size a c:=h.trans (k.mono h.size)
def DIn (w:World) (b o:Nat) (d:Dev) (A:Option Addr) (c:Nat):Prop:=DCells w b o d A c∧b<w.heap.size
theorem DIn.below {w w':World} {b o c:Nat} {d:Dev} {A:Option Addr} (h:DIn w b o d A c) (hb:Below w.heap.size w w'):DIn w' b o d A c:=⟨h.1.keep hb h.2,Nat.lt_of_lt_of_le h.2 hb.size⟩
theorem DIn.grown {w w':World} {b o c q:Nat} {d:Dev} {A:Option Addr} (h:DIn w b o d A c) (hg:w.grownBy w' (some q)) (hq:b≠q):DIn w' b o d A c:=by
 obtain ⟨⟨D,E,F,G,H,I,J,K,L,M⟩,C⟩:=h;have B:∀ j u,w.cell? ⟨b,j,none⟩=some u→w'.cell? ⟨b,j,none⟩=some u:=fun j u hu=>hg.cell hu (fun e=>hq (Option.some.inj e))
 exact ⟨⟨B _ _ D,B _ _ E,B _ _ F,B _ _ G,B _ _ H,B _ _ I,B _ _ J,B _ _ K,B _ _ L,B _ _ M⟩,Nat.lt_of_lt_of_le C hg.size⟩
theorem DIn.drew {w:World} {b o c:Nat} {d:Dev} {A:Option Addr} (h:DIn w b o d A c):DIn w.drew b o d A c:=h.below (below_drewN_self w w.heap.size 1)
end Go.Cold
namespace Go.Cold
open Go Go.RowKit
def TrSt (w0:World) (B b:Nat) (xs:List Int) (k g4 g5:Nat) (A:Option Addr) (c:Nat) (L:List Dev) (w:World):Prop :=
 TapeAt w B b xs k∧w0.grownBy w (some b)∧BoxL w g4 [.slice none 0 0]∧BoxL w g5 [.slice A L.length c]∧SlS w (fun x=>g5<x∧x<w.heap.size) A c L
def TrK (w0:World) (B b g4 g5:Nat):Prop:=b<w0.heap.size∧B≤b∧w0.heap.size≤g4∧g4<g5
section
variable {w0 w w':World} {B b k k' g4 g5 c:Nat} {xs:List Int} {A:Option Addr} {L:List Dev}
theorem TrSt.tape (h:TrSt w0 B b xs k g4 g5 A c L w) (K:TrK w0 B b g4 g5) (ht:TapeAt w' B b xs k') (hg:w.grownBy w' (some b)):TrSt w0 B b xs k' g4 g5 A c L w':=by
 obtain ⟨M,C,D,E,F⟩:=h;obtain ⟨G,H,I,J⟩:=K;exact ⟨ht,grown_trans C hg,D.kept hg (fun e=>by have:=Option.some.inj e;omega),E.kept hg (fun e=>by have:=Option.some.inj e;omega),
  F.mono (fun x hx=>⟨hx.1,by have:=hg.size;omega⟩) (fun x o u hx hu=>hg.cell hu (fun e=>by have h:x=b:=Option.some.inj e;omega))⟩
theorem TrSt.below (h:TrSt w0 B b xs k g4 g5 A c L w) (hb:Below w.heap.size w w'):TrSt w0 B b xs k g4 g5 A c L w':=by
 obtain ⟨C,D,E,F,G⟩:=h;exact ⟨C.kept (grown_none hb) (fun e=>by cases e) (fun g e=>by cases e),grown_below D hb,E.kept (grown_none hb) (fun e=>by cases e),F.kept (grown_none hb) (fun e=>by cases e),
  G.mono (fun x hx=>⟨hx.1,by have:=hb.size;omega⟩) (fun x o u hx hu=>(hb.cell (p:=⟨x,o,none⟩) (by exact hx.2)).trans hu)⟩
theorem TrSt.drew (h:TrSt w0 B b xs k g4 g5 A c L w):TrSt w0 B b xs k g4 g5 A c L w.drew:=h.below (below_drewN_self w _ 1)
theorem TrSt.put {A':Option Addr} {c':Nat} {L':List Dev} (h:TrSt w0 B b xs k g4 g5 A c L w) (K:TrK w0 B b g4 g5) (hs:SlS w (fun x=>g5<x∧x<w.heap.size) A' c' L'):TrSt w0 B b xs k g4 g5 A' c' L' (w.setCell ⟨g5,0,none⟩ (.slice A' L'.length c')):=by
 obtain ⟨C,D,E,F,M⟩:=h;obtain ⟨G,H,I,J⟩:=K;exact ⟨C.set_ (by omega) (by omega) _,grown_set D (by omega) _,E.far (by omega) _,F.set_ (j:=0) (by simp) _,(hs.set_ (fun x hx=>by omega) _).mono (fun x hx=>⟨hx.1,by simpa using hx.2⟩) (fun _ _ _ _ hu=>hu)⟩
theorem TrSt.treeIn (h:TrSt w0 B b xs k g4 g5 A c L w) (K:TrK w0 B b g4 g5):TreeIn w b (fun x=>g5<x∧x<w.heap.size) A c L:=by
 obtain ⟨C,D,E,F⟩:=K;exact ⟨h.2.2.2.2,fun x hx=>by omega,fun x hx=>hx.2⟩
end
theorem VT_tree {L:List Dev} {d:Dev} (h:VT L) (he:insE L d=0):VT (insR L d)∧(insR L d).length=L.length+1:=by
 unfold insR;rw [if_pos he];exact ⟨(ins_VT h he).1,ins_length L d⟩
end Go.Cold
namespace Go.Proofs.YtjpoljlgkgmdkaaGreatDoor
open Go.RowKit Go.Cold
def NotG (b:Nat):Prop:=¬ b=0
theorem Ok.tape {w w':World} {b:Nat} (h:Ok w) (hg:w.grownBy w' (some b)) (hb:NotG b):Ok w':=by
 obtain ⟨m,A⟩:=h;exact ⟨m,hg.cell A (fun e=>hb (Option.some.inj e).symm)⟩
def TreePost (xs:List Int) (k B b:Nat) (n:Int) (w:World) (e:Ending) (w':World):Prop:=∃ (A:Option Addr) (c:Nat) (L:List Dev) (k':Nat),e=.returned (.agg #[.slice A L.length c])∧VT L∧(L.length:Int)≤n∧SlS w' (fun x=>w.heap.size≤x∧x<w'.heap.size) A c L∧k'≤k+1000∧TapeAt w' B b xs k'∧w.grownBy w' (some b)
def TrCut (w0:World) (B b:Nat) (xs:List Int) (kx g4 g5:Nat) (A:Option Addr) (c:Nat) (L:List Dev) (g7:Nat) (d:Dev) (w:World):Prop :=
 ∃ (k':Nat) (A':Option Addr) (c':Nat),k'≤kx∧TrSt w0 B b xs k' g4 g5 A c L w∧SlS w (fun x=>g5<x∧x<w.heap.size) A' c' (insR L d)∧w.cell? ⟨g7,0,none⟩=some (.slice A' (insR L d).length c')
theorem info_tree2:(Tryz.prog.info? 47).map (fun i=>(i.zero,i.size))=some (some (.agg #[.slice none 0 0]),1):=by kernel_rfl
set_option maxRecDepth 100000 in
set_option maxHeartbeats 8000000 in
theorem Tree_any (xs:List Int) (k B b:Nat) (n:Int) (w:World) (hk:k≤2 ^ 37) (ht:TapeAt w B b xs k) (hn:0≤n∧n≤20) (hok:Ok w) (hng:NotG b):Calls Tryz.prog 20 #[.pointer (some ⟨b,0,none⟩),.int .i64 n] w (TreePost xs k B b n w):=by
 have B3:0≤n:=hn.1;have C3:n≤20:=hn.2;have HT:=Lh_ ht;have HK:=Lh_ hk;have M1:=Lh_ hok;have L1:=Lh_ hng;have HN:=Lh_ hn;clear ht hk hok hng hn;have K0:=Lh_ (show b<w.heap.size∧B≤b by obtain ⟨_,_,_,_,_,_,h1,h2⟩:=HT.out;exact ⟨h2,h1⟩);have D3:=(zero_of_info (P:=Tryz.prog) (t:=47) info_tree2).1;go_enter Tryz.func20,Tryz.ntmps20;go_upto_region 2 with fail
 obtain ⟨T,H2,H1,R0,Q1⟩:=bx_ w [.slice none 0 0] 47;try simp only [H2]
 have U1:=Lh_ H1;clear H2 H1;try rw [← R0.out]
 obtain ⟨w2,I2,D1,V1,R1⟩:=bx_ T [.slice none 0 0] 47;try simp only [I2]
 have F1:=tb_ U1 D1;have P2:=kb_ Q1 D1;clear I2 D1;try rw [← V1.out]
 have X1:=Lh_ (HT.out.kept (grown_none F1.out) (fun e=>by cases e) (fun g e=>by cases e));have H:=Lh_ (show TrK w B b w.heap.size T.heap.size from ⟨K0.out.1,K0.out.2,Nat.le_refl _,by have:=R0.out;omega⟩);have M:=Lh_ (show TrSt w B b xs (k) w.heap.size T.heap.size none 0 ([]:List Dev) w2 from ⟨X1.out,grown_any F1.out,P2.out,R1.out,SlS.nil_⟩);go_wp2_with fail;refine (Next_lit (n+1) xs k B b _ (by have:=HK.out;omega) X1.out (by omega) (by omega)).mono ?_;rintro e w3 ⟨m,E2,O2,rfl,H0,Z⟩;have G1:=Lh_ (M.out.tape H.out H0 Z);clear H0 Z;go_wp2_with fail;go_loopw [6] (fun i wr=>∃ (j:Int) (L:List Dev) (A:Option Addr) (c k':Nat),i=.int .i64 j∧(0≤j∧j≤n∧(L.length:Int)+j≤n)∧Hid (VT L)∧Hid ((k':Int)+31 * j≤k+1+31 * n)∧Hid (TrSt w B b xs (k') w.heap.size T.heap.size A c L wr)) (fun i _=>(intOf i).toNat)
 case atStart=>exact ⟨m,[],none,0,k+1,rfl,⟨E2,by omega,by simp;omega⟩,VT_nil,by show ((k+1:Nat):Int)+31 * m≤_;omega,G1⟩
 obtain ⟨j,L,A,c,k',rfl,hj,F0,J1,M⟩:=hrel;obtain ⟨X2,Y2,Z2⟩:=hj;clear G1 E2 O2;have hk':k'≤k+1+31 * 20:=by have:=J1.out;omega
 have K1:=Lh_ hk';clear hk';have D2:L.length≤20:=by omega
 have W1:=Lh_ D2;clear D2;by_cases hlt:0<j
 ·
  go_upto_region 5 with fail
  go_cut [7,8] (fun s7 s8 wx=>∃ (g7:Nat) (d:Dev),s7=.pointer (some ⟨g7,0,none⟩)∧s8=.int .i64 (insE L d)∧Hid (TrCut w B b xs (k'+30) w.heap.size T.heap.size A c L g7 d wx))
  case first =>
   refine wp_region_held_drew (S:=fun w'=>BoxL w' T.heap.size [.slice A L.length c]) (by kernel_rfl) M.out.2.2.2.1.drew (fun hS0=>?_);obtain ⟨wd,hwd⟩:∃ z,wr.drew=z:=⟨_,rfl⟩;have D:=Lh_ M.out.drew;rw [hwd] at hS0 D ⊢;clear hwd hS0;have X0:=Lh_ (show wd.grownBy wd (some b) from grown_any (Below.refl _ _));refine tk1 0 18 (.agg #[.slice A L.length c]) rfl (fun w' hS=>by (have u:=hS.1 0 _ rfl;go_simp)) D.out.2.2.2.1 ?_;try simp only [Act.put,sA_,sB_,sC_]
   refine tk1 2 20 (.agg #[.slice A L.length c]) rfl (fun w' hS=>by (have u:=hS.1 0 _ rfl;go_simp)) D.out.2.2.2.1 ?_;try simp only [Act.put,sA_,sB_,sC_]
   refine tk1 1 19 (.pointer (some ⟨b,0,none⟩)) rfl (fun w' hS=>by go_simp) D.out.2.2.2.1 ?_;try simp only [Act.put,sA_,sB_,sC_]
   refine wpAnyH_ready (rs:=[3,8]) (by kernel_rfl) (by simp) ?_;refine AllReadyH.cons (o:=⟨some 21,.call ⟨_,_,_⟩,_,_,_,_⟩) rfl (fun K hK=>?_) (AllReadyH.cons (o:=⟨some 7,.alloc _,_,_,_,_⟩) rfl (fun K hK=>?_) (AllReadyH.nil))
   ·
    go_simp;go_at_call 54;refine (Device_any xs k' B b A c L _ _ (by have:=HK.out;have:=K1.out;omega) D.out.1 (D.out.treeIn H.out) (fun d hd=>(F0.out.small d hd).2) (by have:=W1.out;omega)).mono ?_;rintro e' q3 ⟨d,A2,c2,k2,rfl,Y,G,G0,H0,Z⟩;have O:=Lh_ (D.out.tape H.out H0 Z);have P0:=Lh_ Y;have N0:=Lh_ G0;have U:=Lh_ (grown_trans X0.out Z);have B1:=Lh_ (show SlS q3 (fun x=>T.heap.size<x∧x<q3.heap.size) A2 c2 d.attrs from G.mono (fun x hx=>⟨by have:=D.out.2.2.2.1.2.2;omega,hx.2⟩) (fun _ _ _ _ hu=>hu));clear Y G G0 H0 Z;refine hK.out _ _ O.out.2.2.2.1 (fun _=>?_);clear hK K;try simp only [Act.put,sA_,sB_,sC_]
    refine wpAnyH_ready (rs:=[4,8]) (by kernel_rfl) (by simp) ?_;refine AllReadyH.cons (o:=⟨some 22,.call ⟨_,_,_⟩,_,_,_,_⟩) rfl (fun K hK=>?_) (AllReadyH.cons (o:=⟨some 7,.alloc _,_,_,_,_⟩) rfl (fun K hK=>?_) (AllReadyH.nil))
    ·
     have E0:=Lh_ (show SlS q3 (fun x=>T.heap.size<x∧x<q3.heap.size) A c L from ((D.out.2.2.2.2.tape U.out (fun x hx=>by have:=H.out;unfold TrK at this;omega))).mono (fun x hx=>⟨hx.1,by have:=U.out.size;omega⟩) (fun _ _ _ _ hu=>hu));go_simp;go_at_call 53;refine (RInsert_any A c L d A2 c2 (fun x=>T.heap.size<x∧x<q3.heap.size) _ E0.out (fun x hx=>hx.2) P0.out.ok B1.out F0.out (M1.out.tape O.out.2.1 L1.out)).mono ?_;rintro e' q4 ⟨C,v,rfl,J⟩;obtain ⟨N,R,E1,G⟩:=J.cs;subst E1;have Q:=Lh_ (O.out.below C);have Y0:=Lh_ (grown_below U.out C);have C1:=Lh_ (show SlS q4 (fun x=>T.heap.size<x∧x<q4.heap.size) N R (insR L d) from G.mono (fun x hx=>⟨by rcases hx.1 with h | h;exact h.1;have:=O.out.2.2.2.1.2.2;omega,hx.2⟩) (fun _ _ _ _ hu=>hu));clear C J G E0;refine hK.out _ _ Q.out.2.2.2.1 (fun _=>?_);clear hK K;try simp only [Act.put,sA_,sB_,sC_]
     refine tk1 5 17 (.tuple #[.agg #[.slice N (insR L d).length R],.int .i64 (insE L d)]) rfl (fun w' hS=>by go_simp) Q.out.2.2.2.1 ?_;try simp only [Act.put,sA_,sB_,sC_]
     refine tk1 6 23 (.agg #[.slice N (insR L d).length R]) rfl (fun w' hS=>by go_simp) Q.out.2.2.2.1 ?_;try simp only [Act.put,sA_,sB_,sC_]
     refine tk1 7 24 (.int .i64 (insE L d)) rfl (fun w' hS=>by go_simp) Q.out.2.2.2.1 ?_;try simp only [Act.put,sA_,sB_,sC_]
     refine rd1 8 (o:=⟨some 7,.alloc _,_,_,_,_⟩) rfl (fun K hK=>?_);go_simp;obtain ⟨q5,hq5⟩:∃ z,q4.alloc (.cells #[.slice none 0 0] 47)=z:=⟨_,rfl⟩;have C:Below q4.heap.size q4 q5:=by rw [← hq5];exact (Below.refl _ _).alloc (Nat.le_refl _) _
     have I0:=Lh_ (show BoxL q5 q4.heap.size [.slice none 0 0] from box_mk hq5);try rw [hq5]
     clear hq5;have E:=Lh_ (show b<q4.heap.size∧T.heap.size<q4.heap.size∧wd.heap.size≤q4.heap.size from ⟨by have:=Q.out.2.2.2.1.2.2;have:=H.out;unfold TrK at this;omega,Q.out.2.2.2.1.2.2,Y0.out.size⟩);have V:=Lh_ (Q.out.below C);have Z0:=Lh_ (grown_below Y0.out C);have P1:=Lh_ ((C1.out.below C (fun x hx=>hx.2)).mono (S':=fun x=>T.heap.size<x∧x<q5.heap.size∧x≠q4.heap.size) (fun x hx=>⟨hx.1,by have:=C.size;omega,by omega⟩) (fun _ _ _ _ hu=>hu));clear C;refine hK.out _ _ V.out.2.2.2.1 (fun _=>?_);clear hK K;try simp only [Act.put,sA_,sB_,sC_]
     have c7:=I0.out.1 0 _ rfl;have Z1:=I0.out.2.1;have D0:=Lh_ (show ∀ (A':Option Addr) (c':Nat) (L':List Dev),SlS q5 (fun x=>T.heap.size<x∧x<q5.heap.size∧x≠q4.heap.size) A' c' L'→SlS (q5.setCell ⟨q4.heap.size,0,none⟩ (.slice N (insR L d).length R)) (fun x=>T.heap.size<x∧x<(q5.setCell ⟨q4.heap.size,0,none⟩ (.slice N (insR L d).length R)).heap.size) A' c' L' from fun A' c' L' h=>(h.set_ (fun x hx=>hx.2.2) _).mono (fun x hx=>⟨hx.1,by simpa using hx.2.1⟩) (fun _ _ _ _ hu=>hu));have X:=Lh_ (show TrSt w B b xs k2 w.heap.size T.heap.size A c L (q5.setCell ⟨q4.heap.size,0,none⟩ (.slice N (insR L d).length R)) from ⟨V.out.1.set_ (by have:=E.out;omega) (by have:=E.out;have:=K0.out;omega) _,grown_set V.out.2.1 (by have:=E.out;have:=H.out;unfold TrK at this;omega) _,V.out.2.2.1.far (by have:=E.out;have:=H.out;unfold TrK at this;omega) _,V.out.2.2.2.1.far (by have:=E.out;omega) _,D0.out _ _ _ (((D.out.2.2.2.2.tape Z0.out (fun x hx=>by have:=H.out;unfold TrK at this;omega))).mono (fun x hx=>⟨hx.1,by have:=Z0.out.size;omega,by have:=E.out;omega⟩) (fun _ _ _ _ hu=>hu))⟩);have W0:=Lh_ (show BoxL (q5.setCell ⟨q4.heap.size,0,none⟩ (.slice N (insR L d).length R)) q4.heap.size [.slice N (insR L d).length R] from I0.out.set_ (j:=0) (by simp) _);have O0:=Lh_ (D0.out _ _ _ P1.out);refine rd1 9 (o:=⟨none,.store _ _ _,_,_,_,_⟩) rfl (fun K hK=>?_);go_simp;refine hK.out _ _ X.out.2.2.2.1 (fun _=>?_);clear hK K;try simp only [Act.put,sA_,sB_,sC_]
     refine tk1 10 8 (.int .i64 (insE L d)) rfl (fun w' hS=>by go_simp) X.out.2.2.2.1 ?_;try simp only [Act.put,sA_,sB_,sC_]
     refine wpAnyH_done (by kernel_rfl) ?_ _;go_wp2_with fail;go_meet;exact ⟨q4.heap.size,d,rfl,rfl,⟨k2,N,R,N0.out,X.out,O0.out,W0.out.1 0 _ rfl⟩⟩
    go_simp;obtain ⟨q6,hq6⟩:∃ z,q3.alloc (.cells #[.slice none 0 0] 47)=z:=⟨_,rfl⟩;have C:Below q3.heap.size q3 q6:=by rw [← hq6];exact (Below.refl _ _).alloc (Nat.le_refl _) _
    have T0:=Lh_ (show BoxL q6 q3.heap.size [.slice none 0 0] from box_mk hq6);try rw [hq6]
    clear hq6;have E:=Lh_ (show b<q3.heap.size∧T.heap.size<q3.heap.size∧wd.heap.size≤q3.heap.size from ⟨by have:=O.out.2.2.2.1.2.2;have:=H.out;unfold TrK at this;omega,O.out.2.2.2.1.2.2,U.out.size⟩);have B0:=Lh_ (O.out.below C);have L0:=Lh_ (grown_below U.out C);have N1:=Lh_ ((B1.out.below C (fun x hx=>hx.2)).mono (S':=fun x=>T.heap.size<x∧x<q6.heap.size∧x≠q3.heap.size) (fun x hx=>⟨hx.1,by have:=C.size;omega,by omega⟩) (fun _ _ _ _ hu=>hu));clear C;refine hK.out _ _ B0.out.2.2.2.1 (fun _=>?_);clear hK K;try simp only [Act.put,sA_,sB_,sC_]
    refine rd1 4 (o:=⟨some 22,.call ⟨_,_,_⟩,_,_,_,_⟩) rfl (fun K hK=>?_);have E0:=Lh_ (show SlS q6 (fun x=>T.heap.size<x∧x<q6.heap.size∧x≠q3.heap.size) A c L from ((D.out.2.2.2.2.tape L0.out (fun x hx=>by have:=H.out;unfold TrK at this;omega))).mono (fun x hx=>⟨hx.1,by have:=L0.out.size;omega,by have:=E.out;omega⟩) (fun _ _ _ _ hu=>hu));go_simp;go_at_call 53;refine (RInsert_any A c L d A2 c2 (fun x=>T.heap.size<x∧x<q6.heap.size∧x≠q3.heap.size) _ E0.out (fun x hx=>hx.2.1) P0.out.ok N1.out F0.out (M1.out.tape B0.out.2.1 L1.out)).mono ?_;rintro e' q7 ⟨C,v,rfl,J⟩;obtain ⟨N,R,E1,G⟩:=J.cs;subst E1;have I:=Lh_ (B0.out.below C);have A1:=Lh_ (grown_below L0.out C);have J0:=kb_ T0 C;have C1:=Lh_ (show SlS q7 (fun x=>T.heap.size<x∧x<q7.heap.size∧x≠q3.heap.size) N R (insR L d) from G.mono (fun x hx=>⟨by rcases hx.1 with h | h;exact h.1;have:=B0.out.2.2.2.1.2.2;omega,hx.2,by rcases hx.1 with h | h;exact h.2.2;have:=T0.out.2.2;omega⟩) (fun _ _ _ _ hu=>hu));clear C J G E0;refine hK.out _ _ I.out.2.2.2.1 (fun _=>?_);clear hK K;try simp only [Act.put,sA_,sB_,sC_]
    refine tk1 5 17 (.tuple #[.agg #[.slice N (insR L d).length R],.int .i64 (insE L d)]) rfl (fun w' hS=>by go_simp) I.out.2.2.2.1 ?_;try simp only [Act.put,sA_,sB_,sC_]
    refine tk1 6 23 (.agg #[.slice N (insR L d).length R]) rfl (fun w' hS=>by go_simp) I.out.2.2.2.1 ?_;try simp only [Act.put,sA_,sB_,sC_]
    refine tk1 7 24 (.int .i64 (insE L d)) rfl (fun w' hS=>by go_simp) I.out.2.2.2.1 ?_;try simp only [Act.put,sA_,sB_,sC_]
    have c7:=J0.out.1 0 _ rfl;have Z1:=J0.out.2.1;have D0:=Lh_ (show ∀ (A':Option Addr) (c':Nat) (L':List Dev),SlS q7 (fun x=>T.heap.size<x∧x<q7.heap.size∧x≠q3.heap.size) A' c' L'→SlS (q7.setCell ⟨q3.heap.size,0,none⟩ (.slice N (insR L d).length R)) (fun x=>T.heap.size<x∧x<(q7.setCell ⟨q3.heap.size,0,none⟩ (.slice N (insR L d).length R)).heap.size) A' c' L' from fun A' c' L' h=>(h.set_ (fun x hx=>hx.2.2) _).mono (fun x hx=>⟨hx.1,by simpa using hx.2.1⟩) (fun _ _ _ _ hu=>hu));have X:=Lh_ (show TrSt w B b xs k2 w.heap.size T.heap.size A c L (q7.setCell ⟨q3.heap.size,0,none⟩ (.slice N (insR L d).length R)) from ⟨I.out.1.set_ (by have:=E.out;omega) (by have:=E.out;have:=K0.out;omega) _,grown_set I.out.2.1 (by have:=E.out;have:=H.out;unfold TrK at this;omega) _,I.out.2.2.1.far (by have:=E.out;have:=H.out;unfold TrK at this;omega) _,I.out.2.2.2.1.far (by have:=E.out;omega) _,D0.out _ _ _ (((D.out.2.2.2.2.tape A1.out (fun x hx=>by have:=H.out;unfold TrK at this;omega))).mono (fun x hx=>⟨hx.1,by have:=A1.out.size;omega,by have:=E.out;omega⟩) (fun _ _ _ _ hu=>hu))⟩);have W0:=Lh_ (show BoxL (q7.setCell ⟨q3.heap.size,0,none⟩ (.slice N (insR L d).length R)) q3.heap.size [.slice N (insR L d).length R] from J0.out.set_ (j:=0) (by simp) _);have O0:=Lh_ (D0.out _ _ _ C1.out);refine rd1 9 (o:=⟨none,.store _ _ _,_,_,_,_⟩) rfl (fun K hK=>?_);go_simp;refine hK.out _ _ X.out.2.2.2.1 (fun _=>?_);clear hK K;try simp only [Act.put,sA_,sB_,sC_]
    refine tk1 10 8 (.int .i64 (insE L d)) rfl (fun w' hS=>by go_simp) X.out.2.2.2.1 ?_;try simp only [Act.put,sA_,sB_,sC_]
    refine wpAnyH_done (by kernel_rfl) ?_ _;go_wp2_with fail;go_meet;exact ⟨q3.heap.size,d,rfl,rfl,⟨k2,N,R,N0.out,X.out,O0.out,W0.out.1 0 _ rfl⟩⟩
   go_simp;obtain ⟨q8,hq8⟩:∃ z,wd.alloc (.cells #[.slice none 0 0] 47)=z:=⟨_,rfl⟩;have C:Below wd.heap.size wd q8:=by rw [← hq8];exact (Below.refl _ _).alloc (Nat.le_refl _) _
   have U0:=Lh_ (show BoxL q8 wd.heap.size [.slice none 0 0] from box_mk hq8);try rw [hq8]
   clear hq8;have E:=Lh_ (show b<wd.heap.size∧T.heap.size<wd.heap.size∧wd.heap.size≤wd.heap.size from ⟨by have:=D.out.2.2.2.1.2.2;have:=H.out;unfold TrK at this;omega,D.out.2.2.2.1.2.2,X0.out.size⟩);have W:=Lh_ (D.out.below C);have I1:=Lh_ (grown_below X0.out C);clear C;refine hK.out _ _ W.out.2.2.2.1 (fun _=>?_);clear hK K;try simp only [Act.put,sA_,sB_,sC_]
   refine rd1 3 (o:=⟨some 21,.call ⟨_,_,_⟩,_,_,_,_⟩) rfl (fun K hK=>?_);go_simp;go_at_call 54;refine (Device_any xs k' B b A c L _ _ (by have:=HK.out;have:=K1.out;omega) W.out.1 (W.out.treeIn H.out) (fun d hd=>(F0.out.small d hd).2) (by have:=W1.out;omega)).mono ?_;rintro e' q9 ⟨d,A2,c2,k2,rfl,Y,G,G0,H0,Z⟩;have C0:=Lh_ (W.out.tape H.out H0 Z);have P0:=Lh_ Y;have N0:=Lh_ G0;have M0:=Lh_ (grown_trans I1.out Z);have V0:=Lh_ (U0.out.kept Z (fun e=>by have:=Option.some.inj e;have:=E.out;omega));have O1:=Lh_ (show SlS q9 (fun x=>T.heap.size<x∧x<q9.heap.size∧x≠wd.heap.size) A2 c2 d.attrs from G.mono (fun x hx=>⟨by have:=W.out.2.2.2.1.2.2;omega,hx.2,by have:=U0.out.2.2;omega⟩) (fun _ _ _ _ hu=>hu));clear Y G G0 H0 Z;refine hK.out _ _ C0.out.2.2.2.1 (fun _=>?_);clear hK K;try simp only [Act.put,sA_,sB_,sC_]
   refine rd1 4 (o:=⟨some 22,.call ⟨_,_,_⟩,_,_,_,_⟩) rfl (fun K hK=>?_);have E0:=Lh_ (show SlS q9 (fun x=>T.heap.size<x∧x<q9.heap.size∧x≠wd.heap.size) A c L from ((D.out.2.2.2.2.tape M0.out (fun x hx=>by have:=H.out;unfold TrK at this;omega))).mono (fun x hx=>⟨hx.1,by have:=M0.out.size;omega,by have:=E.out;omega⟩) (fun _ _ _ _ hu=>hu));go_simp;go_at_call 53;refine (RInsert_any A c L d A2 c2 (fun x=>T.heap.size<x∧x<q9.heap.size∧x≠wd.heap.size) _ E0.out (fun x hx=>hx.2.1) P0.out.ok O1.out F0.out (M1.out.tape C0.out.2.1 L1.out)).mono ?_;rintro e' q10 ⟨C,v,rfl,J⟩;obtain ⟨N,R,E1,G⟩:=J.cs;subst E1;have F:=Lh_ (C0.out.below C);have Q0:=Lh_ (grown_below M0.out C);have A0:=kb_ V0 C;have C1:=Lh_ (show SlS q10 (fun x=>T.heap.size<x∧x<q10.heap.size∧x≠wd.heap.size) N R (insR L d) from G.mono (fun x hx=>⟨by rcases hx.1 with h | h;exact h.1;have:=C0.out.2.2.2.1.2.2;omega,hx.2,by rcases hx.1 with h | h;exact h.2.2;have:=V0.out.2.2;omega⟩) (fun _ _ _ _ hu=>hu));clear C J G E0;refine hK.out _ _ F.out.2.2.2.1 (fun _=>?_);clear hK K;try simp only [Act.put,sA_,sB_,sC_]
   refine tk1 5 17 (.tuple #[.agg #[.slice N (insR L d).length R],.int .i64 (insE L d)]) rfl (fun w' hS=>by go_simp) F.out.2.2.2.1 ?_;try simp only [Act.put,sA_,sB_,sC_]
   refine tk1 6 23 (.agg #[.slice N (insR L d).length R]) rfl (fun w' hS=>by go_simp) F.out.2.2.2.1 ?_;try simp only [Act.put,sA_,sB_,sC_]
   refine tk1 7 24 (.int .i64 (insE L d)) rfl (fun w' hS=>by go_simp) F.out.2.2.2.1 ?_;try simp only [Act.put,sA_,sB_,sC_]
   have c7:=A0.out.1 0 _ rfl;have Z1:=A0.out.2.1;have D0:=Lh_ (show ∀ (A':Option Addr) (c':Nat) (L':List Dev),SlS q10 (fun x=>T.heap.size<x∧x<q10.heap.size∧x≠wd.heap.size) A' c' L'→SlS (q10.setCell ⟨wd.heap.size,0,none⟩ (.slice N (insR L d).length R)) (fun x=>T.heap.size<x∧x<(q10.setCell ⟨wd.heap.size,0,none⟩ (.slice N (insR L d).length R)).heap.size) A' c' L' from fun A' c' L' h=>(h.set_ (fun x hx=>hx.2.2) _).mono (fun x hx=>⟨hx.1,by simpa using hx.2.1⟩) (fun _ _ _ _ hu=>hu));have X:=Lh_ (show TrSt w B b xs k2 w.heap.size T.heap.size A c L (q10.setCell ⟨wd.heap.size,0,none⟩ (.slice N (insR L d).length R)) from ⟨F.out.1.set_ (by have:=E.out;omega) (by have:=E.out;have:=K0.out;omega) _,grown_set F.out.2.1 (by have:=E.out;have:=H.out;unfold TrK at this;omega) _,F.out.2.2.1.far (by have:=E.out;have:=H.out;unfold TrK at this;omega) _,F.out.2.2.2.1.far (by have:=E.out;omega) _,D0.out _ _ _ (((D.out.2.2.2.2.tape Q0.out (fun x hx=>by have:=H.out;unfold TrK at this;omega))).mono (fun x hx=>⟨hx.1,by have:=Q0.out.size;omega,by have:=E.out;omega⟩) (fun _ _ _ _ hu=>hu))⟩);have W0:=Lh_ (show BoxL (q10.setCell ⟨wd.heap.size,0,none⟩ (.slice N (insR L d).length R)) wd.heap.size [.slice N (insR L d).length R] from A0.out.set_ (j:=0) (by simp) _);have O0:=Lh_ (D0.out _ _ _ C1.out);refine rd1 9 (o:=⟨none,.store _ _ _,_,_,_,_⟩) rfl (fun K hK=>?_);go_simp;refine hK.out _ _ X.out.2.2.2.1 (fun _=>?_);clear hK K;try simp only [Act.put,sA_,sB_,sC_]
   refine tk1 10 8 (.int .i64 (insE L d)) rfl (fun w' hS=>by go_simp) X.out.2.2.2.1 ?_;try simp only [Act.put,sA_,sB_,sC_]
   refine wpAnyH_done (by kernel_rfl) ?_ _;go_wp2_with fail;go_meet;exact ⟨wd.heap.size,d,rfl,rfl,⟨k2,N,R,N0.out,X.out,O0.out,W0.out.1 0 _ rfl⟩⟩
  case rest =>
  obtain ⟨g7,d,rfl,rfl,hq⟩:=hcut;obtain ⟨k2,N,R,C2,G2,F2,B2⟩:=hq.out;clear hq M;have N0:=Lh_ C2;have M:=Lh_ G2;have L2:=Lh_ F2;have J2:=Lh_ B2;clear C2 G2 F2 B2;obtain ⟨z,hz⟩:∃ z,insE L d=z:=⟨_,rfl⟩;rw [hz];have HZ:=Lh_ hz;clear hz;by_cases h0:z=0
  ·
   have e0:(z == 0)=true:=beq_iff_eq.2 h0;have Y1:=Lh_ (VT_tree F0.out (by rw [HZ.out,h0]));clear h0;have c7:=J2.out;have t0:=M.out.2.2.2.1.1 0 _ rfl;have tf:=M.out.2.2.2.1.2.1;have O0:=Lh_ (M.out.put H.out L2.out);go_wp2;go_roundw
   case rel=>exact ⟨j - 1,insR L d,N,R,k2,by first | rfl | go_num,⟨by omega,by omega,by rw [Y1.out.2];push_cast;omega⟩,Y1.out.1,by have:=J1.out;have:=N0.out;show (k2:Int)+31 * (j - 1)≤_;omega,O0⟩
   simp [intOf];omega
  have e0:(z == 0)=false:=beq_eq_false_iff_ne.2 h0;clear h0;go_wp2;go_roundw
  case rel=>exact ⟨j - 1,L,A,c,k2,by first | rfl | go_num,⟨by omega,by omega,by omega⟩,F0.out,by have:=J1.out;have:=N0.out;show (k2:Int)+31 * (j - 1)≤_;omega,M⟩
  simp [intOf];omega
 have t0:=M.out.2.2.2.1.1 0 _ rfl;have r0:=M.out.2.2.1.1 0 _ rfl;have rf:=M.out.2.2.1.2.1;go_wp2;refine bodyPost_ret (v:=.agg #[.slice A L.length c]) (by simp [results,Tryz.results20,go_sem,r0,rf]) rfl ⟨A,c,L,k',rfl,F0.out,by omega,?_,by have:=K1.out;omega,M.out.1.set_ (by have:=K0.out;omega) (by have:=K0.out;omega) _,grown_set M.out.2.1 (Nat.le_refl _) _⟩;exact (M.out.2.2.2.2.set_ (fun x hx=>by have:=R0.out;omega) _).mono (fun x hx=>⟨by have:=R0.out;omega,by simpa using hx.2⟩) (fun _ _ _ _ hu=>hu)
end Go.Proofs.YtjpoljlgkgmdkaaGreatDoor
namespace Go.Cold
open Go Go.RowKit
end Go.Cold
namespace Go.Proofs.YtjpoljlgkgmdkaaGreatDoor
open Go.RowKit Go.Cold
end Go.Proofs.YtjpoljlgkgmdkaaGreatDoor
namespace Go.Cold
open Go Go.RowKit
def orgM (L:List Dev):Int→Option ByteArray:=L.foldl (fun f d=>updF f d.idx (((f d.par).getD ByteArray.empty ++ ⟨#[47]⟩) ++ d.orig)) (fun _=>none)
def plGo:List Dev→Nat→(Int→Option Int)→(Int→Option Int)
 | [],_,f=>f
 | d :: r,i,f=>plGo r (i+1) (updF f d.idx (i:Int))
def plM (L:List Dev):Int→Option Int:=plGo L 0 (fun _=>none)
theorem str_size_in {m:Nat}:∀ (L:List Dev) (s:Int→ByteArray) (t:Nat),(∀ n,(s n).size≤t)→(∀ d ∈ L,d.orig.size≤m)→∀ n,(L.foldl strStep s n).size≤t+L.length * (m+1)
 | [],s,t,h,_,n=>by simpa using h n
 | d :: r,s,t,h,hm,n=>by
  have h2:=str_size_in r (strStep s d) (t+(m+1)) (fun n=>by
   unfold strStep;have h3:=hm d List.mem_cons_self;split
   ·
    rw [ByteArray.size_append,ByteArray.size_append]
    have h4:=h d.par;have h5:(⟨#[47]⟩:ByteArray).size=1:=rfl;omega
   · have:=h n;omega) (fun x hx=>hm x (List.mem_cons_of_mem _ hx)) n
  rw [List.foldl_cons,List.length_cons,Nat.succ_mul];omega
theorem str_size {L:List Dev} (h:∀ d ∈ L,d.orig.size≤32) (hl:L.length≤256) (n:Int):(strF L n).size≤8448:=by
 have A:=str_size_in L (fun _=>⟨#[]⟩) 0 (fun _=>Nat.le_refl _) h n;have B:=Nat.mul_le_mul_right 33 hl;unfold strF;omega
def LkSt (P:Program) (tI tS:TypeId) (w0:World) (g1 g2 g3 bp bo:Nat) (A:Option Addr) (c:Nat) (L:List Dev) (k:Nat) (w:World):Prop :=
 Below w0.heap.size w0 w∧BoxL w g1 [.slice A L.length c]∧BoxL w g2 [.slice none 0 0,.map none,.map none]∧BoxL w g3 [.slice A L.length c,.map (some bp),.map (some bo)]∧MapV P tI tI w bp k (plM (L.take k))∧MapV P tI tS w bo k (orgM (L.take k))
theorem LkSt.below {P:Program} {tI tS:TypeId} {w0 w w':World} {g1 g2 g3 bp bo c k:Nat} {A:Option Addr} {L:List Dev} (h:LkSt P tI tS w0 g1 g2 g3 bp bo A c L k w) (hb:Below w.heap.size w w'):LkSt P tI tS w0 g1 g2 g3 bp bo A c L k w':=by
 obtain ⟨B,C,D,E,F,G⟩:=h;exact ⟨B.trans (hb.mono B.size),C.kept (grown_none hb) (fun e=>by cases e),D.kept (grown_none hb) (fun e=>by cases e),E.kept (grown_none hb) (fun e=>by cases e),F.next hb,G.next hb⟩
section
variable {α:Type} [El α] {P:Program} {k e t:TypeId} {w w':World} {b n:Nat} {f:Int→Option α}
end
end Go.Cold
namespace Go.Proofs.YtjpoljlgkgmdkaaGreatDoor
open Go.RowKit Go.Cold
end Go.Proofs.YtjpoljlgkgmdkaaGreatDoor
namespace Go.Cold
open Go Go.RowKit
end Go.Cold
namespace Go.Proofs.YtjpoljlgkgmdkaaGreatDoor
open Go.RowKit Go.Cold
end Go.Proofs.YtjpoljlgkgmdkaaGreatDoor
