/-
  The plain side of layer 1,on: what a text becomes as the name of a link,said in both ways. No program is named here.
-/
import Derived.Test.YtjpoljlgkgmdkaaGreatDoorMVK
set_option linter.unusedSimpArgs false
set_option linter.unusedVariables false
namespace Go.Cold
open Go Go.RowKit Go.Proofs.YtjpoljlgkgmdkaaGreatDoor
open Go.Proofs hiding intOf

theorem cleanP_in (b:UInt8):(partL ++ [47]).contains (cleanP b)=true:=by
 cases h:(partL ++ [47]).contains b with
 | true=>rw [cleanP_good h,h]
 | false=>rw [cleanP_bad h];decide
theorem part_slash (b:UInt8):(partL ++ [47]).contains b=(partL.contains b || b == 47):=by
 rw [Bool.eq_iff_iff];simp [List.contains_iff_mem]
theorem cleaned_pieces (l:List UInt8):∀ x ∈ splitOn 47 (l.map cleanP),x.all (fun b=>partL.contains b && !(b == 47))=true :=
 splitOn_all 47 partL.contains _ (by
  rw [List.all_eq_true];intro b hb;rw [List.mem_map] at hb;obtain ⟨a,_,rfl⟩:=hb;rw [← part_slash];exact cleanP_in a)
def ddB (x:ByteArray):Bool:=x.toList == [46,46]
def cleanR (s:ByteArray):Option ByteArray :=
 if (piecesL (s.data.toList.map cleanP)).any ddB then none else
 if (joinB (fsOf s)).toList.isEmpty || decide ((256:Int)<(joinB (fsOf s)).size) then none else some (joinB (fsOf s))
theorem link_nil:linkB (joinB [])=false:=by kernel_rfl
theorem empty_nil:(joinB []).toList.isEmpty=true:=by kernel_rfl
theorem cleanOf_cleanR (s:ByteArray):cleanOf s=cleanR s:=by
 have E:∀ x ∈ piecesL (s.data.toList.map cleanP),x.data.toList.all (fun b=>partL.contains b && !(b == 47))=true:=by
  intro x A;unfold piecesL at A;rw [List.mem_map] at A;obtain ⟨y,P,rfl⟩:=A;exact cleaned_pieces _ y P
 by_cases hn:fsOf s=[]
 ·
  have O:linkB (joinB (fsOf s))=false:=by
   rw [hn];exact link_nil
  have M:(joinB (fsOf s)).toList.isEmpty=true:=by
   rw [hn];exact empty_nil
  rw [cleanOf,O,cleanR,M];simp
 have I:piecesL (joinB (fsOf s)).data.toList=fsOf s:=pieces_join hn (by
  rw [List.all_eq_true];intro x A;have:=E x (List.mem_filter.1 A).1;rw [List.all_eq_true] at this ⊢;intro b hb;have:=this b hb;rw [Bool.and_eq_true] at this;exact this.2)
 have C:(fsOf s).all compB = !((piecesL (s.data.toList.map cleanP)).any ddB):=by
  rw [Bool.eq_iff_iff];simp only [List.all_eq_true,Bool.not_eq_true',List.any_eq_false];constructor
  ·
   intro h x A hd
   have N:keepB x=true:=by
    unfold ddB at hd;have:x.toList=[46,46]:=by simpa using hd
    unfold keepB;rw [this];rfl
   have D:=h x (List.mem_filter.2 ⟨A,N⟩);unfold compB dotsB at D;unfold ddB at hd;rw [hd] at D;simp at D
  intro h x A;have G:=List.mem_filter.1 A;have D:=h x G.1;have J:=E x G.1;have B:=G.2;unfold keepB at B;rw [Bool.and_eq_true] at B;unfold compB dotsB inB;rw [B.1];have F:(x.toList == [46])=false:=by simpa using B.2
  have K:(x.toList == [46,46])=false:=by unfold ddB at D;simpa using D
  rw [F,K];have L:x.data.toList.all partL.contains=true:=by
   rw [List.all_eq_true] at J ⊢;intro b hb;have:=J b hb;rw [Bool.and_eq_true] at this;exact this.1
  rw [L];rfl
 have H:(joinB (fsOf s)).toList.isEmpty=false:=by
  cases hf:fsOf s with
  | nil=>exact absurd hf hn
  | cons x r =>
   have A:x ∈ fsOf s:=by rw [hf];simp
   have B:=(List.mem_filter.1 A).2;unfold keepB at B;rw [Bool.and_eq_true] at B;have F:¬ x.data.toList=[]:=by
    have:=B.1;rw [Lib.toList_data] at this;simpa using this
   have:¬ (joinB (x :: r)).toList=[]:=by
    rw [Lib.toList_data];unfold joinB;rw [toB_data,List.map_cons,Lib.join_cons];intro e;exact F (List.append_eq_nil_iff.1 e).1
   simpa using this
 rw [cleanOf,cleanR,H,Bool.false_or];unfold linkB;rw [I,C];cases (piecesL (s.data.toList.map cleanP)).any ddB with
 | true=>simp
 | false =>
  simp only [Bool.not_false,Bool.and_true,Bool.false_eq_true,if_false,decide_eq_true_eq];by_cases h:((joinB (fsOf s)).size:Int)≤256
  · rw [if_pos h,if_neg (by omega)]
  rw [if_neg h,if_pos (by omega)]

def RCleanPost (s:ByteArray) (w:World) (e:Ending) (w':World):Prop:=Below w.heap.size w w'∧e=.returned (match cleanR s with | some t=>.tuple #[.string t,.bool true] | none=>.tuple #[.string ⟨#[]⟩,.bool false])
theorem cleanR_dd {s:ByteArray} (h:(piecesL (s.data.toList.map cleanP)).any ddB=true):cleanR s=none:=by rw [cleanR,if_pos h]
theorem any_of {p:ByteArray→Bool} {xs:List ByteArray} {k:Nat} {x:ByteArray} (hx:xs[k]? = some x) (h:p x=true):xs.any p=true :=
 List.any_eq_true.2 ⟨x,List.mem_of_getElem? hx,h⟩
theorem none_step {p:ByteArray→Bool} {xs:List ByteArray} {k:Nat} {x:ByteArray} (hx:xs[k]? = some x) (ha:(xs.take k).any p=false) (h:p x=false):(xs.take (k+1)).any p=false:=by
 rw [List.take_add_one,hx,List.any_append,ha];simp [h]

set_option maxRecDepth 100000 in
theorem RClean_any (s:ByteArray) (w:World) (hs:s.size≤4096) (hok:Ok w):Calls Tryz.prog 107 #[.string s] w (RCleanPost s w):=by
 have Z0:=Lh_ hok;clear hok;obtain ⟨i0,P0,B0,T0,U0⟩:=info_parts info_strH;have X0:=Lh_ P0;clear P0;have A1:=Lh_ B0;clear B0;have B1:=Lh_ T0;clear T0;have C1:=Lh_ U0;clear U0;go_enter Tryz.func107,Tryz.ntmps107;go_wp2_with (with_reducible refine at_dst 11 ?_;go_must (refine wpList_conv_bytes rfl 9 81 5 _ rfl s rfl Tryz.underlying9 Tryz.underlying81 Tryz.underlying5 ?_);intro cap w3 hcap hrow C D);have B:=Lh_ hrow;clear hrow;generalize hg:w.heap.size=g at *;go_loopw [5] (fun i wr=>∃ k:Nat,k≤s.size∧i=.int .i64 k∧Hid (ByteRow wr g (cleanK s.data.toList k))∧g<wr.heap.size∧Below g w wr) (fun i _=>s.size - (intOf i).toNat)
 case atStart=>exact ⟨0,Nat.zero_le _,rfl,by rw [cleanK_zero];exact B,C,D⟩
 clear B C D;obtain ⟨k,hk,rfl,B,C,D⟩:=hrel;by_cases hlt:k<s.size
 ·
  obtain ⟨x,hx⟩:∃ x:UInt8,s[k]'hlt=x:=⟨_,rfl⟩
  have A0:s.data.toList[k]? = some x:=by rw [← hx];exact Lib.data_getElem? s k hlt
  obtain ⟨M1,N1⟩:=B.out k x (cleanK_at A0);have Q0:k<(cleanK s.data.toList k).length:=by rw [cleanK_length _ _ (by rw [ba_size];omega),ba_size];exact hlt
  have Y0:=Lh_ Q0;clear Q0;have K:=Lh_ A0;clear A0 hx;have i1:(k:Int)<(s.size:Int):=by omega
  by_cases h47:x=47
  ·
   subst h47
   go_wp2_with fail;go_roundw
   case rel=>exact ⟨k+1,by omega,by go_num,by rw [cleanK_same K.out (by decide)];exact B,C,D⟩
   simp [intOf];omega
  have G1:¬ (x.toNat:Int)=47:=by
   intro e;apply h47
   apply UInt8.toNat_inj.1
   simpa using (show x.toNat=47 by omega)
  have Y:=part_slash x;have P:(x == 47)=false:=by simpa using h47
  rw [P,Bool.or_false] at Y;have G0:=Lh_ Y;clear Y h47 P;go_wp2_with fail;refine (IndexByte_at _ partL rfl x _).mono ?_;rintro e w' ⟨rfl,rfl⟩;have X:=Lib.contains_iff_indexByte partL x;obtain ⟨z,hz⟩:∃ z,Lib.indexByte partL x=z:=⟨_,rfl⟩;rw [hz] at X ⊢;have F0:=Lh_ X;clear X hz;by_cases B0:z<0
  ·
   have hc:(partL ++ [47]).contains x=false:=by rw [G0.out,F0.out];simp;omega
   have HC:=Lh_ hc;clear hc;go_wp2;go_roundw
   case rel =>
    refine ⟨k+1,by omega,by go_num,?_,by simpa using C,D.setCell (by simp) _⟩;rw [cleanK_succ K.out,cleanP_bad HC.out];exact B.out.set_ Y0.out 95
   simp [intOf];omega
  have hc:(partL ++ [47]).contains x=true:=by rw [G0.out,F0.out];simp;omega
  have HC:=Lh_ hc;clear hc;go_wp2;go_roundw
  case rel=>exact ⟨k+1,by omega,by go_num,by rw [cleanK_same K.out (cleanP_good HC.out)];exact B,C,D⟩
  simp [intOf];omega
 have Q:ByteRow wr g (s.data.toList.map cleanP):=by
  have:=B.out;rwa [cleanK_all _ (by rw [ba_size];omega)] at this
 have N:=Lh_ Q;clear Q B;go_wp2_with (with_reducible refine at_dst 35 ?_;go_must (refine wpList_conv_string rfl 81 9 5 _ rfl g cap s.size (s.data.toList.map cleanP) (by rw [List.length_map,ba_size]) rfl N.out Tryz.underlying81 Tryz.underlying5 Tryz.underlying9 ?_));clear C hcap;subst hg;refine (SplitSlash_any (toB (s.data.toList.map cleanP)) wr (by rw [toB_size,List.length_map,ba_size];omega) (Z0.out.next D)).mono ?_;rintro e w5 ⟨A,c,rfl,M,K0⟩;have I:=D.trans (K0.mono D.size);rw [toB_data] at M ⊢;have R0:(piecesL (s.data.toList.map cleanP)).length≤s.size+1:=by
  unfold piecesL;rw [List.length_map];have:=splitOn_count 47 (s.data.toList.map cleanP);rwa [List.length_map,ba_size] at this
 obtain ⟨xs,hxs⟩:∃ xs,piecesL (s.data.toList.map cleanP)=xs:=⟨_,rfl⟩;rw [hxs] at M R0 ⊢;have U:=Lh_ hxs;clear hxs;have I0:=Lh_ M;clear M N D K0;go_wp2_with fail;go_loopw [7,8] (fun v i wr=>∃ k:Nat,k≤xs.length∧i=.int .i64 k∧wr.ownsRow w5.heap.size 9 1 v ((xs.take k).filter keepB).length (((xs.take k).filter keepB).map Value.string)∧Hid ((xs.take k).any ddB=false)∧Below w5.heap.size w5 wr) (fun _ i _=>xs.length - (intOf i).toNat)
 case atStart=>exact ⟨0,Nat.zero_le _,rfl,World.ownsRow_nil _ _ _ _,rfl,Below.refl _ _⟩
 obtain ⟨k2,O1,rfl,hown,E,hbr⟩:=hrel;have HOwn:=Lh_ hown;clear hown;by_cases hlt2:k2<xs.length
 ·
  obtain ⟨b3,o3,rfl,D1,cx,F1⟩:=I0.out.str hlt2
  have cx':=(hbr.cell (p:=⟨b3,o3+k2,none⟩) D1).trans cx;have Z:xs[k2]? = some xs[k2]:=List.getElem?_eq_getElem hlt2;obtain ⟨x,hx⟩:∃ x,xs[k2]=x:=⟨_,rfl⟩;rw [hx] at cx' F1 Z;clear cx;have K:=Lh_ Z;clear Z hx;have i1:(k2:Int)<(xs.length:Int):=by omega
  have N0:((xs.take k2).filter keepB).length≤k2:=Nat.le_trans (List.length_filter_le _ _) (List.length_take_le _ _);have E0:=Lh_ N0;clear N0;cases hkp:keepB x with
  | true =>
   have h1:x.toList.isEmpty=false:=by
    unfold keepB at hkp;simp only [Bool.and_eq_true] at hkp;simpa using hkp.1
   have h2:(x.toList == [46])=false:=by
    unfold keepB at hkp;simp only [Bool.and_eq_true] at hkp;simpa using hkp.2
   have T:=Lh_ hkp;clear hkp;cases L:ddB x with
   | true =>
    have R:=any_of K.out L;have C0:=Lh_ R;clear R;have h3:(x.toList == [46,46])=true:=L;clear L;go_wp2_with fail;go_ret2;exact ⟨I.trans (hbr.mono I.size),by rw [cleanR_dd (by rw [U.out];exact C0.out)];rfl⟩
   | false =>
    have h3:(x.toList == [46,46])=false:=L;have HD:=Lh_ L;clear L;go_wp2_with (at_builtin;go_must (refine wpList_append_own _ rfl _ _ 27 rfl w5.heap.size 9 i0 (.string ByteArray.empty) 1 16 Tryz.underlying27 X0.out A1.out B1.out C1.out rfl (by decide) _ _ _ rfl (HOwn.out.alloc _) ⟨wr.heap.size,0,none⟩ 1 1 [.string x] rfl rfl (cell_one_new _ _ _) (by intro u hu;simp at hu;subst hu;rfl) (by have:=E0.out;unfold maxLen;omega) (by have:=E0.out;omega) (by have:=hbr.size;simp;omega) ?_);intro v' w1 hown' hgrow _);have hbr':Below w5.heap.size w5 w1:=(hbr.alloc hbr.size _).grown hgrow (by have:=hbr.size;simp;omega) (fun g' hg'=>(HOwn.out.lt g' hg').1);have HOwn':=Lh_ hown';clear hown' hgrow cx' hbr;go_wp2;go_roundw
    case rel =>
     refine ⟨k2+1,by omega,by go_num,?_,none_step K.out E.out HD.out,hbr'⟩;have e:(xs.take (k2+1)).filter keepB=(xs.take k2).filter keepB ++ [x]:=by
      rw [List.take_add_one,K.out,List.filter_append];simp [T.out]
     rw [e,List.length_append,List.map_append];exact HOwn'.out
    simp [intOf];omega
  | false =>
   have S0:x.toList=[]∨((x.toList.isEmpty)=false∧(x.toList == [46])=true):=by
    unfold keepB at hkp;cases h1:x.toList.isEmpty with
    | true=>left;simpa using h1
    | false =>
     right
     rw [h1] at hkp;simpa using hkp
   have L:ddB x=false:=by
    unfold ddB;rcases S0 with h | ⟨_,h⟩
    · rw [h];rfl
    have h:x.toList=[46]:=by simpa using h
    rw [h];rfl
   have HD:=Lh_ L;clear L;have T:=Lh_ hkp;clear hkp;have J:(xs.take (k2+1)).filter keepB=(xs.take k2).filter keepB:=by
    rw [List.take_add_one,K.out,List.filter_append];simp [T.out]
   have F:=Lh_ J;clear J;rcases S0 with h1 | ⟨h1,h2⟩
   ·
    go_wp2
    go_roundw
    case rel=>exact ⟨k2+1,by omega,by go_num,by rw [F.out];exact HOwn.out,none_step K.out E.out HD.out,hbr⟩
    simp [intOf];omega
   go_wp2;go_roundw
   case rel=>exact ⟨k2+1,by omega,by go_num,by rw [F.out];exact HOwn.out,none_step K.out E.out HD.out,hbr⟩
   simp [intOf];omega
 have O0:fsOf s=xs.filter keepB:=by rw [fsOf,U.out]
 have hown:=HOwn.out;rw [List.take_of_length_le (by omega),← O0] at hown;have W:=E.out;rw [List.take_of_length_le (by omega),← U.out] at W;have D0:=Lh_ W;clear W E;obtain ⟨A2,c2,rfl,S⟩:=Sl.ofOwn hown (fun x hx=>by have:=fsOf_sizes hx;unfold maxLen;omega);have V:=I.trans (hbr.mono I.size);have O:=Lh_ S;clear I0 HOwn hown S O0 hbr I;go_wp2_with fail;refine (JoinSlash_any A2 c2 (fsOf s) wr O.out (by have:=fsOf_join_size s;omega) (by have:=fsOf_length s;omega)).mono ?_;rintro e w6 ⟨rfl,L0⟩;have H:=V.trans (L0.mono V.size);have E1:=fsOf_join_size s;have G:cleanR s=if (joinB (fsOf s)).toList.isEmpty || decide ((256:Int)<(joinB (fsOf s)).size) then none else some (joinB (fsOf s)):=by
  rw [cleanR,D0.out];rfl
 obtain ⟨j,hj⟩:∃ j,joinB (fsOf s)=j:=⟨_,rfl⟩;rw [hj] at E1 G ⊢;clear hj O V L0 D0;cases he:j.toList.isEmpty with
 | true =>
  rw [he,Bool.true_or,if_pos rfl] at G;have HR:=Lh_ G;clear G;have he':j.toList=[]:=by simpa using he
  clear he;go_wp2;go_ret2;exact ⟨H,by rw [HR.out];rfl⟩
 | false =>
  rw [he,Bool.false_or] at G;by_cases h256:(256:Int)<j.size
  ·
   rw [if_pos (by simpa using h256)] at G
   have HR:=Lh_ G;clear G;go_wp2;go_ret2;exact ⟨H,by rw [HR.out];rfl⟩
  rw [if_neg (by simpa using h256)] at G;have HR:=Lh_ G;clear G;go_wp2;go_ret2;exact ⟨H,by rw [HR.out];rfl⟩
set_option maxRecDepth 100000 in
set_option maxHeartbeats 8000000 in
theorem RAsg_k6 (d:Draft) (h:DH) (t:Term4) (v:ByteArray) (N:Nat→Prop) (w:World) (hN:∀ x,N x→x<w.heap.size) (hd:DFr N w d h) (hs:SoundD d) (ht:okT t) (hv:v.size≤1000) (hok:Ok w) (h7:Ok7 w) (hkey:t.key=6) :
  Calls Tryz.prog 57 #[.agg #[.slice h.a0 d.props.length h.c0,.slice h.a1 d.tags.length h.c1,.slice h.a2 d.links.length h.c2,.slice h.a3 d.run.length h.c3,.slice h.a4 d.load.length h.c4,.string d.nm,.int .i64 d.prio,.string d.owner,.string d.group,.int .i64 d.mode,.string d.res,.int .i64 d.calls,.int .i64 d.ticks,.slice h.a5 d.closed.length h.c5],.agg #[.int .i64 t.key,.string t.nm,.int .i64 t.op,.string t.val],.string v] w (DPost N (asgD d t v) w):=by
 have A2:=Lh_ hkey;clear hkey;have HN:=Lh_ hN;have T1:=Lh_ hs;have HV:=Lh_ hv;have HT:=Lh_ ht;have HD:=Lh_ hd;have J4:=Lh_ hok;have H7:=Lh_ h7;clear hN hs hv ht hd hok h7;have Q3:=(zero_of_info (P:=Tryz.prog) (t:=30) info_draft2).1;go_enter Tryz.func57,Tryz.ntmps57;go_upto_region 1 with fail
 obtain ⟨w1,Y2,P1,X1,H2⟩:=bx_ w [.slice h.a0 d.props.length h.c0,.slice h.a1 d.tags.length h.c1,.slice h.a2 d.links.length h.c2,.slice h.a3 d.run.length h.c3,.slice h.a4 d.load.length h.c4,.string d.nm,.int .i64 d.prio,.string d.owner,.string d.group,.int .i64 d.mode,.string d.res,.int .i64 d.calls,.int .i64 d.ticks,.slice h.a5 d.closed.length h.c5] 30;try simp only [Y2]
 have X3:=Lh_ (show w.heap.size≤w1.heap.size from P1.size);have M2:=Lh_ P1;clear Y2 P1;try rw [← X1.out]
 obtain ⟨w2,Z2,U0,Y1,I2⟩:=bx_ w1 [.int .i64 t.key,.string t.nm,.int .i64 t.op,.string t.val] 35;try simp only [Z2]
 have Y3:=Lh_ (show w1.heap.size≤w2.heap.size from U0.size);have N2:=tb_ M2 U0;have L3:=kb_ H2 U0;clear Z2 U0;try rw [← Y1.out]
 obtain ⟨w3,A3,Q0,Z1,M⟩:=bx_ w2 [.slice none 0 0,.slice none 0 0,.slice none 0 0,.slice none 0 0,.slice none 0 0,.string ByteArray.empty,.int .i64 0,.string ByteArray.empty,.string ByteArray.empty,.int .i64 0,.string ByteArray.empty,.int .i64 0,.int .i64 0,.slice none 0 0] 30;try simp only [A3]
 have Z3:=Lh_ (show w2.heap.size≤w3.heap.size from Q0.size);have L0:=tb_ N2 Q0;have H0:=kb_ L3 Q0;have H:=kb_ I2 Q0;clear A3 Q0;try rw [← Z1.out]
 clear Q3;have HZ:=Lh_ (show w.heap.size<w1.heap.size∧w1.heap.size<w2.heap.size∧w2.heap.size<w3.heap.size by have:=X1.out;have:=Y1.out;have:=Z1.out;omega);have G0:=Lh_ (show DFr (fun x=>N x∨x=w.heap.size∨x=w1.heap.size∨x=w2.heap.size) w3 d h from dfr_new HD.out L0.out (fun x hx=>by have:=HZ.out;rcases hx with hx | rfl | rfl | rfl;exact .inl hx;exact .inr (Nat.le_refl _);exact .inr (by omega);exact .inr (by omega)));have F2:=Lh_ (show ∀ x,(fun x=>N x∨x=w.heap.size∨x=w1.heap.size∨x=w2.heap.size) x→x<w3.heap.size from fun x hx=>by have:=HZ.out;rcases hx with h | h | h | h;(have:=HN.out x h;omega);omega;omega;omega);have G2:=Lh_ (Below.refl w3.heap.size w3);go_cut [7,8] (fun s7 s8 wx=>s7=.bool (validB v)∧s8=.bool (fullT v)∧wx=w3)
 case first =>
  go_wp2_with fail;refine (RValid_any v _ (by have:=HV.out;unfold maxLen;omega)).mono ?_;rintro e w9 ⟨rfl,J⟩;rw [← J];clear J w9;obtain ⟨bn,hbn⟩:∃ z,validB v=z:=⟨_,rfl⟩;rw [hbn];have R1:=Lh_ hbn;clear hbn;go_wp2_with fail;refine (RText_any v _ (by have:=HV.out;unfold maxLen;omega)).mono ?_;rintro e w9 ⟨rfl,J⟩;rw [← J];clear J w9;obtain ⟨tx,htx⟩:∃ z,textB v=z:=⟨_,rfl⟩;rw [htx];have T2:=Lh_ htx;clear htx;cases tx
  ·
   go_wp2_with fail;go_meet;exact ⟨by rw [R1.out],by unfold fullT;rw [T2.out,Bool.and_false],rfl⟩
  by_cases hve:v.toList.isEmpty=true
  ·
   obtain ⟨p1,p2⟩:=empties hve;have V0:=Lh_ hve;clear hve;go_wp2_with fail;go_meet;exact ⟨by rw [R1.out],by unfold fullT;rw [V0.out];rfl,rfl⟩
  have D0:v.toList.isEmpty=false:=by simpa using hve
  obtain ⟨p1,p2⟩:=empties D0;have V0:=Lh_ D0;clear hve D0;go_wp2_with fail;go_meet;exact ⟨by rw [R1.out],by unfold fullT;rw [V0.out,T2.out];rfl,rfl⟩
 case rest =>
 obtain ⟨M3,N3,J⟩:=hcut;subst M3 N3;rw [J];clear J wc;obtain ⟨bn,hbn⟩:∃ z,validB v=z:=⟨_,rfl⟩;obtain ⟨bt,hbt⟩:∃ z,fullT v=z:=⟨_,rfl⟩;rw [hbn,hbt];have R1:=Lh_ hbn;have G4:=Lh_ hbt;clear hbn hbt;refine ‹∀ (a:Act) (w_1:World),Code.wp _ _ _ a w_1→_› _ _ ?_;refine wp_seq_k fun K2 hK2=>?_
 go_cut [] (fun wx=>Hid (AsgSt (fun x=>N x∨x=w.heap.size∨x=w1.heap.size∨x=w2.heap.size) w w.heap.size w2.heap.size (asgD d t v) wx))
 case first =>
  have e6:(t.key == 6)=true:=by rw [A2.out];rfl
  have k6:=A2.out;have HK:=Lh_ k6;clear k6;have O4:=G0.out.1.1;have P3:=G0.out.1.2.1;unfold maxLen at P3;have L:=H0.out.1 0 _ rfl;have W0:=H.out.1 0 _ rfl;have E0:=H.out.1 1 _ rfl;go_wp2_with fail;refine (RGet_any h.a0 h.c0 d.props t.nm w3 w3.heap.size (Nat.le_refl _) G0.out.1.out).mono ?_;rintro e w9 ⟨rfl,J⟩;rw [J];clear J w9;have C0:=getA_size (n:=t.nm) (m:=256) (fun a ha=>sound_val T1.out a ha);obtain ⟨og,hog⟩:∃ z,getA d.props t.nm=z:=⟨_,rfl⟩;rw [hog] at C0 ⊢;have HG:=Lh_ hog;clear hog;obtain ⟨sv,hsv⟩:∃ z,og.getD ByteArray.empty=z:=⟨_,rfl⟩;obtain ⟨hb1,hhb⟩:∃ z,og.isSome=z:=⟨_,rfl⟩;rw [hsv] at C0 ⊢;rw [hhb];have R2:=Lh_ hsv;have H3:=Lh_ C0;clear hsv hhb C0;clear L W0 E0;have L:=H0.out.1 0 _ rfl;have W0:=H.out.1 0 _ rfl;have E0:=H.out.1 1 _ rfl;have B0:=H.out.1 2 _ rfl;by_cases o4:t.op=4
  ·
   have R3:(t.op == 4)=true:=by rw [o4];rfl
   have D1:=Lh_ o4;clear o4;by_cases hve:v.toList.isEmpty=true
   ·
    obtain ⟨p1,p2⟩:=empties hve;have T0:=Lh_ (asg_6a (d:=d) HK.out D1.out hve);clear hve;clear L W0 E0 B0;obtain ⟨L,G1,H1,I1,J1,K1,L1,M1,N1,O1,M0,N0,O0,P0⟩:=s14_ H0.out.1;obtain ⟨Q,R,T,U,V,W,X,Y,Z,A0,C,D,E,F⟩:=s14_ M.out.1;have O:=M.out.2.1;have B0:=H.out.1 2 _ rfl;go_wp2;refine bodyPost_ret (v:=.agg #[.slice h.a0 d.props.length h.c0,.slice h.a1 d.tags.length h.c1,.slice h.a2 d.links.length h.c2,.slice h.a3 d.run.length h.c3,.slice h.a4 d.load.length h.c4,.string d.nm,.int .i64 d.prio,.string d.owner,.string d.group,.int .i64 d.mode,.string d.res,.int .i64 d.calls,.int .i64 d.ticks,.slice h.a5 d.closed.length h.c5]) (by simp [results,Tryz.results57,go_sem,Q,R,T,U,V,W,X,Y,Z,A0,C,D,E,F,O]) rfl ?_;rw [T0.out];exact DPost.fin (h:=h) L0.out (by have:=HZ.out;omega) (fun _=>.inl) (.inr (.inr (.inr rfl))) G0.out _ _ _ _ _ _ _ _ _ _ _ _ _ _
   have D0:v.toList.isEmpty=false:=by simpa using hve
   obtain ⟨p1,p2⟩:=empties D0;have V0:=Lh_ D0;clear hve D0;by_cases hse:sv.toList.isEmpty=true
   ·
    obtain ⟨q1,q2⟩:=empties hse;have I3:=Lh_ hse;clear hse;have T0:=Lh_ (asg_6c (d:=d) (v:=v) HK.out (fun _=>V0.out) (fun _=>by rw [HG.out,R2.out];exact I3.out));clear L W0 E0 B0;obtain ⟨L,G1,H1,I1,J1,K1,L1,M1,N1,O1,M0,N0,O0,P0⟩:=s14_ H0.out.1;have E0:=H.out.1 1 _ rfl;have B0:=H.out.1 2 _ rfl;go_wp2_with fail;refine (RSet_any d h t.nm v (fun x=>N x∨x=w.heap.size∨x=w1.heap.size∨x=w2.heap.size) w3 F2.out G0.out (by have:=T1.out.pl;omega) HT.out.2.1 (by have:=HV.out;unfold maxLen;omega)).mono ?_;rintro e w4 ⟨G,A,rfl,I⟩;rw [← T0.out] at I ⊢;obtain ⟨d5,hd5_⟩:∃ z,asgD d t v=z:=⟨_,rfl⟩;rw [hd5_] at I ⊢;have C1:=Lh_ hd5_;clear hd5_;clear L G1 H1 I1 J1 K1 L1 M1 N1 O1 M0 N0 O0 P0 E0 B0;have B2:=Lh_ (show w3.heap.size≤w4.heap.size from G.size);have F0:=tb_ L0 G;have V1:=kb_ H0 G;have W1:=kb_ H G;have J0:=kb_ M G;have Z0:=Lh_ (G0.out.below G);have E1:=Lh_ (below_next G2.out G);have B1:=Lh_ I;clear I G;obtain ⟨Q,R,T,U,V,W,X,Y,Z,A0,C,D,E,F⟩:=s14_ J0.out.1;have O:=J0.out.2.1;go_wp2;refine bodyPost_ret (v:=.agg #[.slice A.a0 d5.props.length A.c0,.slice A.a1 d5.tags.length A.c1,.slice A.a2 d5.links.length A.c2,.slice A.a3 d5.run.length A.c3,.slice A.a4 d5.load.length A.c4,.string d5.nm,.int .i64 d5.prio,.string d5.owner,.string d5.group,.int .i64 d5.mode,.string d5.res,.int .i64 d5.calls,.int .i64 d5.ticks,.slice A.a5 d5.closed.length A.c5]) (by simp [results,Tryz.results57,go_sem,Q,R,T,U,V,W,X,Y,Z,A0,C,D,E,F,O]) rfl ?_;rw [C1.out];exact DPost.fin (h:=A) F0.out (by have:=HZ.out;omega) (fun _=>.inl) (.inr (.inr (.inr rfl))) B1.out _ _ _ _ _ _ _ _ _ _ _ _ _ _
   have Q1:sv.toList.isEmpty=false:=by simpa using hse
   obtain ⟨q1,q2⟩:=empties Q1;have T0:=Lh_ (asg_6b (d:=d) HK.out D1.out V0.out HG.out R2.out Q1);clear hse Q1;clear L W0 E0 B0;have B0:=H.out.1 2 _ rfl;go_upto_region 8 with fail
   have f0:=H3.out;have f1:=HV.out;have f2:¬ 9223372036854775807<sv.size+1:=by omega
   have f3:¬ 9223372036854775807<sv.size+1+v.size:=by omega
   refine wp_region_held_drew (S:=fun w'=>BoxL w' w.heap.size (drV d h)∧BoxL w' w1.heap.size [.int .i64 t.key,.string t.nm,.int .i64 t.op,.string t.val]) (by kernel_rfl) ⟨H0.out.drew,H.out.drew⟩ (fun hS0=>?_);obtain ⟨wd,hwd⟩:∃ z,World.drew w3=z:=⟨_,rfl⟩;rw [hwd] at hS0 ⊢;have B:Below w3.heap.size w3 wd:=by rw [← hwd];exact below_drewN_self _ _ 1
   clear hwd hS0;clear B0;have A4:=Lh_ (show w3.heap.size≤wd.heap.size from B.size);have O2:=tb_ L0 B;have I0:=kb_ H0 B;have K0:=kb_ H B;have U3:=kb_ M B;have A1:=Lh_ (G0.out.below B);have F1:=Lh_ (below_next G2.out B);clear B;refine tk1 0 56 (.agg #[.slice h.a0 d.props.length h.c0,.slice h.a1 d.tags.length h.c1,.slice h.a2 d.links.length h.c2,.slice h.a3 d.run.length h.c3,.slice h.a4 d.load.length h.c4,.string d.nm,.int .i64 d.prio,.string d.owner,.string d.group,.int .i64 d.mode,.string d.res,.int .i64 d.calls,.int .i64 d.ticks,.slice h.a5 d.closed.length h.c5]) rfl (fun w' hS=>by (have V3:=hS.1.1 0 _ rfl;have R4:=hS.1.1 1 _ rfl;have S4:=hS.1.1 2 _ rfl;have T4:=hS.1.1 3 _ rfl;have U4:=hS.1.1 4 _ rfl;have V4:=hS.1.1 5 _ rfl;have W4:=hS.1.1 6 _ rfl;have X4:=hS.1.1 7 _ rfl;have Y4:=hS.1.1 8 _ rfl;have Z4:=hS.1.1 9 _ rfl;have C4:=hS.1.1 10 _ rfl;have D4:=hS.1.1 11 _ rfl;have E4:=hS.1.1 12 _ rfl;have F4:=hS.1.1 13 _ rfl;go_simp)) ⟨I0.out,K0.out⟩ ?_;try simp only [zP,zA,zB,zC]
   refine tk1 1 57 (.pointer (some ⟨w1.heap.size,1,none⟩)) rfl (fun w' hS=>by go_simp) ⟨I0.out,K0.out⟩ ?_;try simp only [zP,zA,zB,zC]
   refine tk1 2 58 (.string t.nm) rfl (fun w' hS=>by (have V3:=hS.2.1 1 _ rfl;go_simp)) ⟨I0.out,K0.out⟩ ?_;try simp only [zP,zA,zB,zC]
   refine tk1 3 59 (.string sv) rfl (fun w' hS=>by go_simp) ⟨I0.out,K0.out⟩ ?_;try simp only [zP,zA,zB,zC]
   refine tk1 4 60 (.string (sv ++ ⟨#[32]⟩)) rfl (fun w' hS=>by go_simp) ⟨I0.out,K0.out⟩ ?_;try simp only [zP,zA,zB,zC]
   refine tk1 5 61 (.string v) rfl (fun w' hS=>by go_simp) ⟨I0.out,K0.out⟩ ?_;try simp only [zP,zA,zB,zC]
   refine tk1 6 62 (.string ((sv ++ ⟨#[32]⟩) ++ v)) rfl (fun w' hS=>by go_simp) ⟨I0.out,K0.out⟩ ?_;try simp only [zP,zA,zB,zC]
   obtain ⟨sx,hsx⟩:∃ z,(sv ++ ⟨#[32]⟩) ++ v=z:=⟨_,rfl⟩;have X2:sx.size≤2000:=by rw [← hsx,ByteArray.size_append,ByteArray.size_append];have h1:(⟨#[32]⟩:ByteArray).size=1:=rfl;omega
   have P2:=Lh_ (show asgD d t v=setD d t.nm (cutT sx) by rw [T0.out,hsx]);try rw [hsx]
   have S2:=Lh_ X2;clear X2 hsx f0 f1 f2 f3;refine rd1 7 (o:=⟨some 63,.call ⟨_,_,_⟩,_,_,_,_⟩) rfl (fun K hK=>?_);go_simp;go_at_call 103;refine (RCut_any sx _ (by have:=S2.out;unfold maxLen;omega)).mono ?_;rintro e' w9 ⟨rfl,J⟩;rw [J];clear J w9;refine hK.out _ _ ⟨I0.out,K0.out⟩ (fun _=>?_);clear hK K;try simp only [zP,zA,zB,zC]
   refine rd1 8 (o:=⟨some 64,.call ⟨_,_,_⟩,_,_,_,_⟩) rfl (fun K hK=>?_);go_simp;go_at_call 55;have O3:=cut_size sx;refine (RSet_any d h t.nm (cutT sx) (fun x=>N x∨x=w.heap.size∨x=w1.heap.size∨x=w2.heap.size) wd (fun x hx=>Nat.lt_of_lt_of_le (F2.out x hx) F1.out.size) A1.out (by have:=T1.out.pl;omega) HT.out.2.1 (by unfold maxLen;omega)).mono ?_;rintro e' w4 ⟨B,A,rfl,I⟩;clear O3;rw [← P2.out] at I ⊢;obtain ⟨d5,hd5_⟩:∃ z,asgD d t v=z:=⟨_,rfl⟩;rw [hd5_] at I ⊢;have C1:=Lh_ hd5_;clear hd5_;have B2:=Lh_ (show wd.heap.size≤w4.heap.size from B.size);have F0:=tb_ O2 B;have V1:=kb_ I0 B;have W1:=kb_ K0 B;have J0:=kb_ U3 B;have Z0:=Lh_ (A1.out.below B);have E1:=Lh_ (below_next F1.out B);have B1:=Lh_ I;clear I B;refine hK.out _ _ ⟨V1.out,W1.out⟩ (fun _=>?_);clear hK K;try simp only [zP,zA,zB,zC]
   refine rd1 9 (o:=⟨none,.store _ _ _,_,_,_,_⟩) rfl (fun K hK=>?_);obtain ⟨Q,R,T,U,V,W,X,Y,Z,A0,C,D,E,F⟩:=s14_ J0.out.1;have O:=J0.out.2.1;go_simp;clear Q R T U V W X Y Z A0 C D E F O;obtain ⟨w30,hw30⟩:∃ z,set14 w4 (w2.heap.size) (.slice A.a0 d5.props.length A.c0) (.slice A.a1 d5.tags.length A.c1) (.slice A.a2 d5.links.length A.c2) (.slice A.a3 d5.run.length A.c3) (.slice A.a4 d5.load.length A.c4) (.string d5.nm) (.int .i64 d5.prio) (.string d5.owner) (.string d5.group) (.int .i64 d5.mode) (.string d5.res) (.int .i64 d5.calls) (.int .i64 d5.ticks) (.slice A.a5 d5.closed.length A.c5)=z:=⟨_,rfl⟩;have C0:w4.grownBy w30 (some (w2.heap.size)):=by rw [← hw30];exact grown14 _ _ _ _ _ _ _ _ _ _ _ _ _ _ _ _
   have C2:BoxL w30 (w2.heap.size) (drV d5 A):=by rw [← hw30];exact J0.out.set14 _ _ _ _ _ _ _ _ _ _ _ _ _ _
   unfold set14 at hw30;rw [hw30];clear hw30;have J3:=Lh_ C0.size;have D2:=Lh_ (show BoxL w30 (w2.heap.size) (drV d5 A) from C2);have E2:=Lh_ (F0.out.grown C0 F0.out.size (fun q hq=>by have:=Option.some.inj hq;have:=HZ.out;omega));have V2:=kg_ V1 C0 (by have:=HZ.out;omega);have B3:=kg_ W1 C0 (by have:=HZ.out;omega);have S1:=Lh_ (B1.out.grown C0 (.inl (.inr (.inr (.inr rfl)))));clear C0 C2;refine hK.out _ _ ⟨V2.out,B3.out⟩ (fun _=>?_);clear hK K;try simp only [zP,zA,zB,zC]
   refine wpAnyH_done (by kernel_rfl) ?_ _;obtain ⟨Q,R,T,U,V,W,X,Y,Z,A0,C,D,E,F⟩:=s14_ D2.out.1;have O:=D2.out.2.1;go_wp2;refine bodyPost_ret (v:=.agg #[.slice A.a0 d5.props.length A.c0,.slice A.a1 d5.tags.length A.c1,.slice A.a2 d5.links.length A.c2,.slice A.a3 d5.run.length A.c3,.slice A.a4 d5.load.length A.c4,.string d5.nm,.int .i64 d5.prio,.string d5.owner,.string d5.group,.int .i64 d5.mode,.string d5.res,.int .i64 d5.calls,.int .i64 d5.ticks,.slice A.a5 d5.closed.length A.c5]) (by simp [results,Tryz.results57,go_sem,Q,R,T,U,V,W,X,Y,Z,A0,C,D,E,F,O]) rfl ?_;rw [C1.out];exact ⟨E2.out,A,rfl,S1.out.more (fun x _ hx=>.inl hx)⟩
  have R3:(t.op == 4)=false:=by simpa using o4
  have D1:=Lh_ o4;clear o4;have T0:=Lh_ (asg_6c (d:=d) (v:=v) HK.out (fun h=>absurd h D1.out) (fun h=>absurd h D1.out));clear L W0 E0 B0;obtain ⟨L,G1,H1,I1,J1,K1,L1,M1,N1,O1,M0,N0,O0,P0⟩:=s14_ H0.out.1;have E0:=H.out.1 1 _ rfl;have B0:=H.out.1 2 _ rfl;go_wp2_with fail;refine (RSet_any d h t.nm v (fun x=>N x∨x=w.heap.size∨x=w1.heap.size∨x=w2.heap.size) w3 F2.out G0.out (by have:=T1.out.pl;omega) HT.out.2.1 (by have:=HV.out;unfold maxLen;omega)).mono ?_;rintro e w4 ⟨G,A,rfl,I⟩;rw [← T0.out] at I ⊢;obtain ⟨d5,hd5_⟩:∃ z,asgD d t v=z:=⟨_,rfl⟩;rw [hd5_] at I ⊢;have C1:=Lh_ hd5_;clear hd5_;clear L G1 H1 I1 J1 K1 L1 M1 N1 O1 M0 N0 O0 P0 E0 B0;have B2:=Lh_ (show w3.heap.size≤w4.heap.size from G.size);have F0:=tb_ L0 G;have V1:=kb_ H0 G;have W1:=kb_ H G;have J0:=kb_ M G;have Z0:=Lh_ (G0.out.below G);have E1:=Lh_ (below_next G2.out G);have B1:=Lh_ I;clear I G;obtain ⟨Q,R,T,U,V,W,X,Y,Z,A0,C,D,E,F⟩:=s14_ J0.out.1;have O:=J0.out.2.1;go_wp2;refine bodyPost_ret (v:=.agg #[.slice A.a0 d5.props.length A.c0,.slice A.a1 d5.tags.length A.c1,.slice A.a2 d5.links.length A.c2,.slice A.a3 d5.run.length A.c3,.slice A.a4 d5.load.length A.c4,.string d5.nm,.int .i64 d5.prio,.string d5.owner,.string d5.group,.int .i64 d5.mode,.string d5.res,.int .i64 d5.calls,.int .i64 d5.ticks,.slice A.a5 d5.closed.length A.c5]) (by simp [results,Tryz.results57,go_sem,Q,R,T,U,V,W,X,Y,Z,A0,C,D,E,F,O]) rfl ?_;rw [C1.out];exact DPost.fin (h:=A) F0.out (by have:=HZ.out;omega) (fun _=>.inl) (.inr (.inr (.inr rfl))) B1.out _ _ _ _ _ _ _ _ _ _ _ _ _ _
 case rest =>
 obtain ⟨h6,B,J2,W2,L2⟩:=hcut.out;obtain ⟨d6,hd6⟩:∃ z,asgD d t v=z:=⟨_,rfl⟩;rw [hd6] at J2 L2;have F3:=Lh_ hd6;have D3:=Lh_ B;have E3:=Lh_ J2;have Q2:=Lh_ W2;have G3:=Lh_ L2;clear B J2 W2 L2 hd6 hcut;obtain ⟨L,G1,H1,I1,J1,K1,L1,M1,N1,O1,M0,N0,O0,P0⟩:=s14_ E3.out.1;obtain ⟨Q,R,T,U,V,W,X,Y,Z,A0,C,D,E,F⟩:=s14_ Q2.out.1;have O:=Q2.out.2.1;go_wp2;refine bodyPost_ret (v:=.agg #[.slice h6.a0 d6.props.length h6.c0,.slice h6.a1 d6.tags.length h6.c1,.slice h6.a2 d6.links.length h6.c2,.slice h6.a3 d6.run.length h6.c3,.slice h6.a4 d6.load.length h6.c4,.string d6.nm,.int .i64 d6.prio,.string d6.owner,.string d6.group,.int .i64 d6.mode,.string d6.res,.int .i64 d6.calls,.int .i64 d6.ticks,.slice h6.a5 d6.closed.length h6.c5]) (by simp [results,Tryz.results57,go_sem,Q,R,T,U,V,W,X,Y,Z,A0,C,D,E,F,O]) rfl ?_;rw [F3.out];exact DPost.fin (h:=h6) D3.out (by have:=HZ.out;omega) (fun _=>.inl) (.inr (.inr (.inr rfl))) G3.out _ _ _ _ _ _ _ _ _ _ _ _ _ _
set_option maxRecDepth 100000 in
set_option maxHeartbeats 8000000 in
theorem RAsg_k7 (d:Draft) (h:DH) (t:Term4) (v:ByteArray) (N:Nat→Prop) (w:World) (hN:∀ x,N x→x<w.heap.size) (hd:DFr N w d h) (hs:SoundD d) (ht:okT t) (hv:v.size≤1000) (hok:Ok w) (h7:Ok7 w) (hkey:t.key=7) :
  Calls Tryz.prog 57 #[.agg #[.slice h.a0 d.props.length h.c0,.slice h.a1 d.tags.length h.c1,.slice h.a2 d.links.length h.c2,.slice h.a3 d.run.length h.c3,.slice h.a4 d.load.length h.c4,.string d.nm,.int .i64 d.prio,.string d.owner,.string d.group,.int .i64 d.mode,.string d.res,.int .i64 d.calls,.int .i64 d.ticks,.slice h.a5 d.closed.length h.c5],.agg #[.int .i64 t.key,.string t.nm,.int .i64 t.op,.string t.val],.string v] w (DPost N (asgD d t v) w):=by
 have B0:=Lh_ hkey;clear hkey;have HN:=Lh_ hN;have B1:=Lh_ hs;have HV:=Lh_ hv;have HT:=Lh_ ht;have HD:=Lh_ hd;have C3:=Lh_ hok;have H7:=Lh_ h7;clear hN hs hv ht hd hok h7;have L2:=(zero_of_info (P:=Tryz.prog) (t:=30) info_draft2).1;go_enter Tryz.func57,Tryz.ntmps57;go_upto_region 1 with fail
 obtain ⟨w1,L1,D0,I0,Q0⟩:=bx_ w [.slice h.a0 d.props.length h.c0,.slice h.a1 d.tags.length h.c1,.slice h.a2 d.links.length h.c2,.slice h.a3 d.run.length h.c3,.slice h.a4 d.load.length h.c4,.string d.nm,.int .i64 d.prio,.string d.owner,.string d.group,.int .i64 d.mode,.string d.res,.int .i64 d.calls,.int .i64 d.ticks,.slice h.a5 d.closed.length h.c5] 30;try simp only [L1]
 have Q2:=Lh_ (show w.heap.size≤w1.heap.size from D0.size);have X0:=Lh_ D0;clear L1 D0;try rw [← I0.out]
 obtain ⟨Y,M1,U,J0,R0⟩:=bx_ w1 [.int .i64 t.key,.string t.nm,.int .i64 t.op,.string t.val] 35;try simp only [M1]
 have R2:=Lh_ (show w1.heap.size≤Y.heap.size from U.size);have Y0:=tb_ X0 U;have G2:=kb_ Q0 U;clear M1 U;try rw [← J0.out]
 obtain ⟨E,N1,Q,K0,H⟩:=bx_ Y [.slice none 0 0,.slice none 0 0,.slice none 0 0,.slice none 0 0,.slice none 0 0,.string ByteArray.empty,.int .i64 0,.string ByteArray.empty,.string ByteArray.empty,.int .i64 0,.string ByteArray.empty,.int .i64 0,.int .i64 0,.slice none 0 0] 30;try simp only [N1]
 have S2:=Lh_ (show Y.heap.size≤E.heap.size from Q.size);have L:=tb_ Y0 Q;have W:=kb_ G2 Q;have G:=kb_ R0 Q;clear N1 Q;try rw [← K0.out]
 clear L2;have HZ:=Lh_ (show w.heap.size<w1.heap.size∧w1.heap.size<Y.heap.size∧Y.heap.size<E.heap.size by have:=I0.out;have:=J0.out;have:=K0.out;omega);have F:=Lh_ (show DFr (fun x=>N x∨x=w.heap.size∨x=w1.heap.size∨x=Y.heap.size) E d h from dfr_new HD.out L.out (fun x hx=>by have:=HZ.out;rcases hx with hx | rfl | rfl | rfl;exact .inl hx;exact .inr (Nat.le_refl _);exact .inr (by omega);exact .inr (by omega)));have L0:=Lh_ (show ∀ x,(fun x=>N x∨x=w.heap.size∨x=w1.heap.size∨x=Y.heap.size) x→x<E.heap.size from fun x hx=>by have:=HZ.out;rcases hx with h | h | h | h;(have:=HN.out x h;omega);omega;omega;omega);have O0:=Lh_ (Below.refl E.heap.size E);go_cut [7,8] (fun s7 s8 wx=>s7=.bool (validB v)∧s8=.bool (fullT v)∧wx=E)
 case first =>
  go_wp2_with fail;refine (RValid_any v _ (by have:=HV.out;unfold maxLen;omega)).mono ?_;rintro e w9 ⟨rfl,R⟩;rw [← R];clear R w9;obtain ⟨bn,hbn⟩:∃ z,validB v=z:=⟨_,rfl⟩;rw [hbn];have K:=Lh_ hbn;clear hbn;go_wp2_with fail;refine (RText_any v _ (by have:=HV.out;unfold maxLen;omega)).mono ?_;rintro e w9 ⟨rfl,R⟩;rw [← R];clear R w9;obtain ⟨tx,htx⟩:∃ z,textB v=z:=⟨_,rfl⟩;rw [htx];have D1:=Lh_ htx;clear htx;cases tx
  ·
   go_wp2_with fail;go_meet;exact ⟨by rw [K.out],by unfold fullT;rw [D1.out,Bool.and_false],rfl⟩
  by_cases hve:v.toList.isEmpty=true
  ·
   obtain ⟨p1,p2⟩:=empties hve;have N0:=Lh_ hve;clear hve;go_wp2_with fail;go_meet;exact ⟨by rw [K.out],by unfold fullT;rw [N0.out];rfl,rfl⟩
  have E0:v.toList.isEmpty=false:=by simpa using hve
  obtain ⟨p1,p2⟩:=empties E0;have N0:=Lh_ E0;clear hve E0;go_wp2_with fail;go_meet;exact ⟨by rw [K.out],by unfold fullT;rw [N0.out,D1.out];rfl,rfl⟩
 case rest =>
 obtain ⟨H2,I2,R⟩:=hcut;subst H2 I2;rw [R];clear R wc;obtain ⟨bn,hbn⟩:∃ z,validB v=z:=⟨_,rfl⟩;obtain ⟨bt,hbt⟩:∃ z,fullT v=z:=⟨_,rfl⟩;rw [hbn,hbt];have K:=Lh_ hbn;have Z2:=Lh_ hbt;clear hbn hbt;refine ‹∀ (a:Act) (w_1:World),Code.wp _ _ _ a w_1→_› _ _ ?_;refine wp_seq_k fun K2 hK2=>?_
 go_cut [] (fun wx=>Hid (AsgSt (fun x=>N x∨x=w.heap.size∨x=w1.heap.size∨x=Y.heap.size) w w.heap.size Y.heap.size (asgD d t v) wx))
 case first =>
  have e6:(t.key == 6)=false:=by rw [B0.out];rfl
  have e7:(t.key == 7)=true:=by rw [B0.out];rfl
  have k7:=B0.out;have G0:=Lh_ (asg_7 (d:=d) (v:=v) k7);clear k7;cases bn
  ·
   have V:=G.out.1 0 _ rfl;go_wp2_with fail;go_meet;rw [G0.out,if_pos K.out];exact Lh_ ⟨h,L.out,W.out,H.out,F.out⟩
  by_cases o3:t.op=3
  ·
   have M2:(t.op == 3)=true:=by rw [o3];rfl
   have H0:=Lh_ o3;clear o3;have V:=G.out.1 0 _ rfl;have C0:=G.out.1 2 _ rfl;go_upto_region 14 with fail
   clear V C0;obtain ⟨w4,hw4⟩:∃ z,E.alloc (.cells #[.string v] 9)=z:=⟨_,rfl⟩;have O:Below E.heap.size E w4:=by rw [← hw4];exact (Below.refl _ _).alloc (Nat.le_refl _) _
   have U1:=Lh_ (show BoxL w4 E.heap.size [.string v] from box_mk hw4);have C1:=Lh_ (show E.heap.size≤w4.heap.size from O.size);have Z:=tb_ L O;have T:=kb_ W O;have P2:=kb_ G O;have V0:=kb_ H O;have A:=Lh_ (F.out.below O);have P0:=Lh_ (below_next O0.out O);clear O;have A0:=Lh_ (free_one (N:=(fun x=>N x∨x=w.heap.size∨x=w1.heap.size∨x=Y.heap.size)) U1.out (by have:=HV.out;unfold maxLen;omega) (fun hx=>by have:=L0.out _ hx;omega));have S:=T.out.1 1 _ rfl;have E1:=T.out.2.1;go_wp2_with fail;go_meet;rw [G0.out,if_neg (by rw [K.out];decide),if_pos H0.out];exact Lh_ ⟨⟨h.a0,h.c0,some ⟨E.heap.size,0,none⟩,1,h.a2,h.c2,h.a3,h.c3,h.a4,h.c4,h.a5,h.c5⟩,Z.out.setCell (Nat.le_refl _) _,T.out.set_ (j:=1) (by show 1<14;omega) _,V0.out.far (fun e=>by have:=HZ.out;omega) _,(show DFr _ _ _ _ from ⟨(A.out.set_ (.inr (.inl rfl)) 1 (.slice (some ⟨E.heap.size,0,none⟩) 1 1)).1,(A0.out.set_ (.inr (.inl rfl)) 1 (.slice (some ⟨E.heap.size,0,none⟩) 1 1)),(A.out.set_ (.inr (.inl rfl)) 1 (.slice (some ⟨E.heap.size,0,none⟩) 1 1)).2.2.1,(A.out.set_ (.inr (.inl rfl)) 1 (.slice (some ⟨E.heap.size,0,none⟩) 1 1)).2.2.2.1,(A.out.set_ (.inr (.inl rfl)) 1 (.slice (some ⟨E.heap.size,0,none⟩) 1 1)).2.2.2.2.1,(A.out.set_ (.inr (.inl rfl)) 1 (.slice (some ⟨E.heap.size,0,none⟩) 1 1)).2.2.2.2.2.1,(A.out.set_ (.inr (.inl rfl)) 1 (.slice (some ⟨E.heap.size,0,none⟩) 1 1)).2.2.2.2.2.2⟩)⟩
  have M2:(t.op == 3)=false:=by simpa using o3
  have H0:=Lh_ o3;clear o3;by_cases o4:t.op=4
  ·
   have N2:(t.op == 4)=true:=by rw [o4];rfl
   have M0:=Lh_ o4;clear o4;have J2:=F.out.2.1.1;have U0:=F.out.2.1.2.1;unfold maxLen at U0;have S:=W.out.1 1 _ rfl;have V:=G.out.1 0 _ rfl;have C0:=G.out.1 2 _ rfl;go_wp2_with fail;go_wp2_with fail;refine (RPut_any h.a1 h.c1 d.tags v 16 (fun x=>N x∨x=w.heap.size∨x=w1.heap.size∨x=Y.heap.size) E L0.out F.out.2.1 (by have:=B1.out.tl;omega) (by have:=HV.out;unfold maxLen;omega) (by omega)).mono ?_;rintro e w4 ⟨C,J,M,rfl,I⟩;clear S V C0;have C1:=Lh_ (show E.heap.size≤w4.heap.size from C.size);have Z:=tb_ L C;have T:=kb_ W C;have P2:=kb_ G C;have V0:=kb_ H C;have A:=Lh_ (F.out.below C);have P0:=Lh_ (below_next O0.out C);clear C;have A0:=Lh_ I;clear I;have S:=T.out.1 1 _ rfl;have E1:=T.out.2.1;go_wp2_with fail;go_meet;rw [G0.out,if_neg (by rw [K.out];decide),if_neg H0.out,if_pos M0.out];exact Lh_ ⟨⟨h.a0,h.c0,J,M,h.a2,h.c2,h.a3,h.c3,h.a4,h.c4,h.a5,h.c5⟩,Z.out.setCell (Nat.le_refl _) _,T.out.set_ (j:=1) (by show 1<14;omega) _,V0.out.far (fun e=>by have:=HZ.out;omega) _,(show DFr _ _ _ _ from ⟨(A.out.set_ (.inr (.inl rfl)) 1 (.slice J (putT d.tags v 16).length M)).1,(A0.out.set_ (.inr (.inl rfl)) 1 (.slice J (putT d.tags v 16).length M)),(A.out.set_ (.inr (.inl rfl)) 1 (.slice J (putT d.tags v 16).length M)).2.2.1,(A.out.set_ (.inr (.inl rfl)) 1 (.slice J (putT d.tags v 16).length M)).2.2.2.1,(A.out.set_ (.inr (.inl rfl)) 1 (.slice J (putT d.tags v 16).length M)).2.2.2.2.1,(A.out.set_ (.inr (.inl rfl)) 1 (.slice J (putT d.tags v 16).length M)).2.2.2.2.2.1,(A.out.set_ (.inr (.inl rfl)) 1 (.slice J (putT d.tags v 16).length M)).2.2.2.2.2.2⟩)⟩
  have N2:(t.op == 4)=false:=by simpa using o4
  have M0:=Lh_ o4;clear o4;have J2:=F.out.2.1.1;have U0:=F.out.2.1.2.1;unfold maxLen at U0;have S:=W.out.1 1 _ rfl;have V:=G.out.1 0 _ rfl;have C0:=G.out.1 2 _ rfl;go_wp2_with fail;go_wp2_with fail;refine (RWithout_any h.a1 h.c1 d.tags v (fun x=>N x∨x=w.heap.size∨x=w1.heap.size∨x=Y.heap.size) E L0.out F.out.2.1 (by have:=B1.out.tl;omega)).mono ?_;rintro e w5 ⟨D,J,M,rfl,I⟩;clear S V C0;have T2:=Lh_ (show E.heap.size≤w5.heap.size from D.size);have Z0:=tb_ L D;have S0:=kb_ W D;have O3:=kb_ G D;have O2:=kb_ H D;have B:=Lh_ (F.out.below D);have T1:=Lh_ (below_next O0.out D);clear D;have A0:=Lh_ I;clear I;have S:=S0.out.1 1 _ rfl;have E1:=S0.out.2.1;go_wp2_with fail;go_meet;rw [G0.out,if_neg (by rw [K.out];decide),if_neg H0.out,if_neg M0.out];exact Lh_ ⟨⟨h.a0,h.c0,J,M,h.a2,h.c2,h.a3,h.c3,h.a4,h.c4,h.a5,h.c5⟩,Z0.out.setCell (Nat.le_refl _) _,S0.out.set_ (j:=1) (by show 1<14;omega) _,O2.out.far (fun e=>by have:=HZ.out;omega) _,(show DFr _ _ _ _ from ⟨(B.out.set_ (.inr (.inl rfl)) 1 (.slice J (withoutT d.tags v).length M)).1,(A0.out.set_ (.inr (.inl rfl)) 1 (.slice J (withoutT d.tags v).length M)),(B.out.set_ (.inr (.inl rfl)) 1 (.slice J (withoutT d.tags v).length M)).2.2.1,(B.out.set_ (.inr (.inl rfl)) 1 (.slice J (withoutT d.tags v).length M)).2.2.2.1,(B.out.set_ (.inr (.inl rfl)) 1 (.slice J (withoutT d.tags v).length M)).2.2.2.2.1,(B.out.set_ (.inr (.inl rfl)) 1 (.slice J (withoutT d.tags v).length M)).2.2.2.2.2.1,(B.out.set_ (.inr (.inl rfl)) 1 (.slice J (withoutT d.tags v).length M)).2.2.2.2.2.2⟩)⟩
 case rest =>
 obtain ⟨X,J1,T0,K1,I⟩:=hcut.out;obtain ⟨d6,hd6⟩:∃ z,asgD d t v=z:=⟨_,rfl⟩;rw [hd6] at T0 I;have R1:=Lh_ hd6;have P1:=Lh_ J1;have Q1:=Lh_ T0;have A1:=Lh_ K1;have S1:=Lh_ I;clear J1 T0 K1 I hd6 hcut;obtain ⟨D3,S,E3,F3,G3,H3,I3,J3,K3,L3,U2,V2,W2,X2⟩:=s14_ Q1.out.1;obtain ⟨W1,X1,Y1,Z1,A2,B2,C2,D2,E2,F2,F1,G1,H1,I1⟩:=s14_ A1.out.1;have V1:=A1.out.2.1;go_wp2;refine bodyPost_ret (v:=.agg #[.slice X.a0 d6.props.length X.c0,.slice X.a1 d6.tags.length X.c1,.slice X.a2 d6.links.length X.c2,.slice X.a3 d6.run.length X.c3,.slice X.a4 d6.load.length X.c4,.string d6.nm,.int .i64 d6.prio,.string d6.owner,.string d6.group,.int .i64 d6.mode,.string d6.res,.int .i64 d6.calls,.int .i64 d6.ticks,.slice X.a5 d6.closed.length X.c5]) (by simp [results,Tryz.results57,go_sem,W1,X1,Y1,Z1,A2,B2,C2,D2,E2,F2,F1,G1,H1,I1,V1]) rfl ?_;rw [R1.out];exact DPost.fin (h:=X) P1.out (by have:=HZ.out;omega) (fun _=>.inl) (.inr (.inr (.inr rfl))) S1.out _ _ _ _ _ _ _ _ _ _ _ _ _ _
set_option maxRecDepth 100000 in
set_option maxHeartbeats 8000000 in
theorem RAsg_k15 (d:Draft) (h:DH) (t:Term4) (v:ByteArray) (N:Nat→Prop) (w:World) (hN:∀ x,N x→x<w.heap.size) (hd:DFr N w d h) (hs:SoundD d) (ht:okT t) (hv:v.size≤1000) (hok:Ok w) (h7:Ok7 w) (hkey:t.key=15) :
  Calls Tryz.prog 57 #[.agg #[.slice h.a0 d.props.length h.c0,.slice h.a1 d.tags.length h.c1,.slice h.a2 d.links.length h.c2,.slice h.a3 d.run.length h.c3,.slice h.a4 d.load.length h.c4,.string d.nm,.int .i64 d.prio,.string d.owner,.string d.group,.int .i64 d.mode,.string d.res,.int .i64 d.calls,.int .i64 d.ticks,.slice h.a5 d.closed.length h.c5],.agg #[.int .i64 t.key,.string t.nm,.int .i64 t.op,.string t.val],.string v] w (DPost N (asgD d t v) w):=by
 have D:=Lh_ hkey;clear hkey;have HN:=Lh_ hN;have Z1:=Lh_ hs;have HV:=Lh_ hv;have HT:=Lh_ ht;have HD:=Lh_ hd;have Y1:=Lh_ hok;have H7:=Lh_ h7;clear hN hs hv ht hd hok h7;have L1:=(zero_of_info (P:=Tryz.prog) (t:=30) info_draft2).1;go_enter Tryz.func57,Tryz.ntmps57;go_upto_region 1 with fail
 obtain ⟨S,L0,I,O,U⟩:=bx_ w [.slice h.a0 d.props.length h.c0,.slice h.a1 d.tags.length h.c1,.slice h.a2 d.links.length h.c2,.slice h.a3 d.run.length h.c3,.slice h.a4 d.load.length h.c4,.string d.nm,.int .i64 d.prio,.string d.owner,.string d.group,.int .i64 d.mode,.string d.res,.int .i64 d.calls,.int .i64 d.ticks,.slice h.a5 d.closed.length h.c5] 30;try simp only [L0]
 have N1:=Lh_ (show w.heap.size≤S.heap.size from I.size);have A0:=Lh_ I;clear L0 I;try rw [← O.out]
 obtain ⟨M,M0,E,Q,V⟩:=bx_ S [.int .i64 t.key,.string t.nm,.int .i64 t.op,.string t.val] 35;try simp only [M0]
 have O1:=Lh_ (show S.heap.size≤M.heap.size from E.size);have B0:=tb_ A0 E;have I1:=kb_ U E;clear M0 E;try rw [← Q.out]
 obtain ⟨Y,N0,C,R,H⟩:=bx_ M [.slice none 0 0,.slice none 0 0,.slice none 0 0,.slice none 0 0,.slice none 0 0,.string ByteArray.empty,.int .i64 0,.string ByteArray.empty,.string ByteArray.empty,.int .i64 0,.string ByteArray.empty,.int .i64 0,.int .i64 0,.slice none 0 0] 30;try simp only [N0]
 have P1:=Lh_ (show M.heap.size≤Y.heap.size from C.size);have G:=tb_ B0 C;have L:=kb_ I1 C;have M1:=kb_ V C;clear N0 C;try rw [← R.out]
 clear L1;have HZ:=Lh_ (show w.heap.size<S.heap.size∧S.heap.size<M.heap.size∧M.heap.size<Y.heap.size by have:=O.out;have:=Q.out;have:=R.out;omega);have B:=Lh_ (show DFr (fun x=>N x∨x=w.heap.size∨x=S.heap.size∨x=M.heap.size) Y d h from dfr_new HD.out G.out (fun x hx=>by have:=HZ.out;rcases hx with hx | rfl | rfl | rfl;exact .inl hx;exact .inr (Nat.le_refl _);exact .inr (by omega);exact .inr (by omega)));have X1:=Lh_ (show ∀ x,(fun x=>N x∨x=w.heap.size∨x=S.heap.size∨x=M.heap.size) x→x<Y.heap.size from fun x hx=>by have:=HZ.out;rcases hx with h | h | h | h;(have:=HN.out x h;omega);omega;omega;omega);have A2:=Lh_ (Below.refl Y.heap.size Y);go_cut [7,8] (fun s7 s8 wx=>s7=.bool (validB v)∧s8=.bool (fullT v)∧wx=Y)
 case first =>
  go_wp2_with fail;refine (RValid_any v _ (by have:=HV.out;unfold maxLen;omega)).mono ?_;rintro e w9 ⟨rfl,A⟩;rw [← A];clear A w9;obtain ⟨bn,hbn⟩:∃ z,validB v=z:=⟨_,rfl⟩;rw [hbn];have K:=Lh_ hbn;clear hbn;go_wp2_with fail;refine (RText_any v _ (by have:=HV.out;unfold maxLen;omega)).mono ?_;rintro e w9 ⟨rfl,A⟩;rw [← A];clear A w9;obtain ⟨tx,htx⟩:∃ z,textB v=z:=⟨_,rfl⟩;rw [htx];have E0:=Lh_ htx;clear htx;cases tx
  ·
   go_wp2_with fail;go_meet;exact ⟨by rw [K.out],by unfold fullT;rw [E0.out,Bool.and_false],rfl⟩
  by_cases hve:v.toList.isEmpty=true
  ·
   obtain ⟨p1,p2⟩:=empties hve;have T:=Lh_ hve;clear hve;go_wp2_with fail;go_meet;exact ⟨by rw [K.out],by unfold fullT;rw [T.out];rfl,rfl⟩
  have J:v.toList.isEmpty=false:=by simpa using hve
  obtain ⟨p1,p2⟩:=empties J;have T:=Lh_ J;clear hve J;go_wp2_with fail;go_meet;exact ⟨by rw [K.out],by unfold fullT;rw [T.out,E0.out];rfl,rfl⟩
 case rest =>
 obtain ⟨J1,K1,A⟩:=hcut;subst J1 K1;rw [A];clear A wc;obtain ⟨bn,hbn⟩:∃ z,validB v=z:=⟨_,rfl⟩;obtain ⟨bt,hbt⟩:∃ z,fullT v=z:=⟨_,rfl⟩;rw [hbn,hbt];have K:=Lh_ hbn;have U1:=Lh_ hbt;clear hbn hbt;refine ‹∀ (a:Act) (w_1:World),Code.wp _ _ _ a w_1→_› _ _ ?_;refine wp_seq_k fun K2 hK2=>?_
 go_cut [] (fun wx=>Hid (AsgSt (fun x=>N x∨x=w.heap.size∨x=S.heap.size∨x=M.heap.size) w w.heap.size M.heap.size (asgD d t v) wx))
 case first =>
  have e6:(t.key == 6)=false:=by rw [D.out];rfl
  have e7:(t.key == 7)=false:=by rw [D.out];rfl
  have M2:(t.key == 15)=true:=by rw [D.out];rfl
  have O0:=D.out;have C0:=Lh_ (asg_15 (d:=d) (v:=v) O0);clear O0;have H1:=M1.out.1 0 _ rfl;go_wp2_with fail;refine (RInterface_any v _ (by have:=HV.out;unfold maxLen;omega)).mono ?_;rintro e w9 ⟨rfl,A⟩;rw [← A];clear A w9;obtain ⟨bi,hbi⟩:∃ z,ifaceB v=z:=⟨_,rfl⟩;rw [hbi];have Z:=Lh_ hbi;clear hbi;cases bi
  ·
   go_wp2_with fail;go_meet;rw [C0.out,if_neg (by rw [Z.out];decide)];exact Lh_ ⟨h,G.out,L.out,H.out,B.out⟩
  clear H1;have V0:=L.out.1 5 _ rfl;have L2:=L.out.2.1;go_wp2_with fail;go_meet;rw [C0.out,if_pos Z.out];exact Lh_ ⟨h,G.out.setCell (Nat.le_refl _) _,L.out.set_ (j:=5) (by show 5<14;omega) _,H.out.far (fun e=>by have:=HZ.out;omega) _,(show DFr _ _ _ _ from ⟨(B.out.set_ (.inr (.inl rfl)) 5 (.string v)).1,(B.out.set_ (.inr (.inl rfl)) 5 (.string v)).2.1,(B.out.set_ (.inr (.inl rfl)) 5 (.string v)).2.2.1,(B.out.set_ (.inr (.inl rfl)) 5 (.string v)).2.2.2.1,(B.out.set_ (.inr (.inl rfl)) 5 (.string v)).2.2.2.2.1,(B.out.set_ (.inr (.inl rfl)) 5 (.string v)).2.2.2.2.2.1,⟨(by have:=HV.out;show v.size≤maxLen;unfold maxLen;omega),B.out.2.2.2.2.2.2.2⟩⟩)⟩
 case rest =>
 obtain ⟨F,J0,W,K0,X⟩:=hcut.out;obtain ⟨d6,hd6⟩:∃ z,asgD d t v=z:=⟨_,rfl⟩;rw [hd6] at W X;have T0:=Lh_ hd6;have R0:=Lh_ J0;have S0:=Lh_ W;have D0:=Lh_ K0;have U0:=Lh_ X;clear J0 W K0 X hd6 hcut;obtain ⟨B2,C2,D2,E2,F2,V0,G2,H2,I2,J2,Q1,R1,S1,T1⟩:=s14_ S0.out.1;obtain ⟨X0,Y0,Z0,A1,B1,C1,D1,E1,F1,G1,F0,G0,H0,I0⟩:=s14_ D0.out.1;have W0:=D0.out.2.1;go_wp2;refine bodyPost_ret (v:=.agg #[.slice F.a0 d6.props.length F.c0,.slice F.a1 d6.tags.length F.c1,.slice F.a2 d6.links.length F.c2,.slice F.a3 d6.run.length F.c3,.slice F.a4 d6.load.length F.c4,.string d6.nm,.int .i64 d6.prio,.string d6.owner,.string d6.group,.int .i64 d6.mode,.string d6.res,.int .i64 d6.calls,.int .i64 d6.ticks,.slice F.a5 d6.closed.length F.c5]) (by simp [results,Tryz.results57,go_sem,X0,Y0,Z0,A1,B1,C1,D1,E1,F1,G1,F0,G0,H0,I0,W0]) rfl ?_;rw [T0.out];exact DPost.fin (h:=F) R0.out (by have:=HZ.out;omega) (fun _=>.inl) (.inr (.inr (.inr rfl))) U0.out _ _ _ _ _ _ _ _ _ _ _ _ _ _
set_option maxRecDepth 100000 in
set_option maxHeartbeats 8000000 in
theorem RAsg_k17 (d:Draft) (h:DH) (t:Term4) (v:ByteArray) (N:Nat→Prop) (w:World) (hN:∀ x,N x→x<w.heap.size) (hd:DFr N w d h) (hs:SoundD d) (ht:okT t) (hv:v.size≤1000) (hok:Ok w) (h7:Ok7 w) (hkey:t.key=17) :
  Calls Tryz.prog 57 #[.agg #[.slice h.a0 d.props.length h.c0,.slice h.a1 d.tags.length h.c1,.slice h.a2 d.links.length h.c2,.slice h.a3 d.run.length h.c3,.slice h.a4 d.load.length h.c4,.string d.nm,.int .i64 d.prio,.string d.owner,.string d.group,.int .i64 d.mode,.string d.res,.int .i64 d.calls,.int .i64 d.ticks,.slice h.a5 d.closed.length h.c5],.agg #[.int .i64 t.key,.string t.nm,.int .i64 t.op,.string t.val],.string v] w (DPost N (asgD d t v) w):=by
 have B:=Lh_ hkey;clear hkey;have HN:=Lh_ hN;have Y1:=Lh_ hs;have HV:=Lh_ hv;have HT:=Lh_ ht;have HD:=Lh_ hd;have X1:=Lh_ hok;have H7:=Lh_ h7;clear hN hs hv ht hd hok h7;have L1:=(zero_of_info (P:=Tryz.prog) (t:=30) info_draft2).1;go_enter Tryz.func57,Tryz.ntmps57;go_upto_region 1 with fail
 obtain ⟨S,L0,J,O,U⟩:=bx_ w [.slice h.a0 d.props.length h.c0,.slice h.a1 d.tags.length h.c1,.slice h.a2 d.links.length h.c2,.slice h.a3 d.run.length h.c3,.slice h.a4 d.load.length h.c4,.string d.nm,.int .i64 d.prio,.string d.owner,.string d.group,.int .i64 d.mode,.string d.res,.int .i64 d.calls,.int .i64 d.ticks,.slice h.a5 d.closed.length h.c5] 30;try simp only [L0]
 have M1:=Lh_ (show w.heap.size≤S.heap.size from J.size);have Z:=Lh_ J;clear L0 J;try rw [← O.out]
 obtain ⟨M,M0,E,Q,V⟩:=bx_ S [.int .i64 t.key,.string t.nm,.int .i64 t.op,.string t.val] 35;try simp only [M0]
 have N1:=Lh_ (show S.heap.size≤M.heap.size from E.size);have A0:=tb_ Z E;have I1:=kb_ U E;clear M0 E;try rw [← Q.out]
 obtain ⟨Y,N0,C,R,I⟩:=bx_ M [.slice none 0 0,.slice none 0 0,.slice none 0 0,.slice none 0 0,.slice none 0 0,.string ByteArray.empty,.int .i64 0,.string ByteArray.empty,.string ByteArray.empty,.int .i64 0,.string ByteArray.empty,.int .i64 0,.int .i64 0,.slice none 0 0] 30;try simp only [N0]
 have O1:=Lh_ (show M.heap.size≤Y.heap.size from C.size);have H:=tb_ A0 C;have L:=kb_ I1 C;have P0:=kb_ V C;clear N0 C;try rw [← R.out]
 clear L1;have HZ:=Lh_ (show w.heap.size<S.heap.size∧S.heap.size<M.heap.size∧M.heap.size<Y.heap.size by have:=O.out;have:=Q.out;have:=R.out;omega);have A:=Lh_ (show DFr (fun x=>N x∨x=w.heap.size∨x=S.heap.size∨x=M.heap.size) Y d h from dfr_new HD.out H.out (fun x hx=>by have:=HZ.out;rcases hx with hx | rfl | rfl | rfl;exact .inl hx;exact .inr (Nat.le_refl _);exact .inr (by omega);exact .inr (by omega)));have W1:=Lh_ (show ∀ x,(fun x=>N x∨x=w.heap.size∨x=S.heap.size∨x=M.heap.size) x→x<Y.heap.size from fun x hx=>by have:=HZ.out;rcases hx with h | h | h | h;(have:=HN.out x h;omega);omega;omega;omega);have Z1:=Lh_ (Below.refl Y.heap.size Y);go_cut [7,8] (fun s7 s8 wx=>s7=.bool (validB v)∧s8=.bool (fullT v)∧wx=Y)
 case first =>
  go_wp2_with fail;refine (RValid_any v _ (by have:=HV.out;unfold maxLen;omega)).mono ?_;rintro e w9 ⟨rfl,D⟩;rw [← D];clear D w9;obtain ⟨bn,hbn⟩:∃ z,validB v=z:=⟨_,rfl⟩;rw [hbn];have F:=Lh_ hbn;clear hbn;go_wp2_with fail;refine (RText_any v _ (by have:=HV.out;unfold maxLen;omega)).mono ?_;rintro e w9 ⟨rfl,D⟩;rw [← D];clear D w9;obtain ⟨tx,htx⟩:∃ z,textB v=z:=⟨_,rfl⟩;rw [htx];have D0:=Lh_ htx;clear htx;cases tx
  ·
   go_wp2_with fail;go_meet;exact ⟨by rw [F.out],by unfold fullT;rw [D0.out,Bool.and_false],rfl⟩
  by_cases hve:v.toList.isEmpty=true
  ·
   obtain ⟨p1,p2⟩:=empties hve;have T:=Lh_ hve;clear hve;go_wp2_with fail;go_meet;exact ⟨by rw [F.out],by unfold fullT;rw [T.out];rfl,rfl⟩
  have K:v.toList.isEmpty=false:=by simpa using hve
  obtain ⟨p1,p2⟩:=empties K;have T:=Lh_ K;clear hve K;go_wp2_with fail;go_meet;exact ⟨by rw [F.out],by unfold fullT;rw [T.out,D0.out];rfl,rfl⟩
 case rest =>
 obtain ⟨J1,K1,D⟩:=hcut;subst J1 K1;rw [D];clear D wc;obtain ⟨bn,hbn⟩:∃ z,validB v=z:=⟨_,rfl⟩;obtain ⟨bt,hbt⟩:∃ z,fullT v=z:=⟨_,rfl⟩;rw [hbn,hbt];have F:=Lh_ hbn;have T1:=Lh_ hbt;clear hbn hbt;refine ‹∀ (a:Act) (w_1:World),Code.wp _ _ _ a w_1→_› _ _ ?_;refine wp_seq_k fun K2 hK2=>?_
 go_cut [] (fun wx=>Hid (AsgSt (fun x=>N x∨x=w.heap.size∨x=S.heap.size∨x=M.heap.size) w w.heap.size M.heap.size (asgD d t v) wx))
 case first =>
  have e6:(t.key == 6)=false:=by rw [B.out];rfl
  have e7:(t.key == 7)=false:=by rw [B.out];rfl
  have L2:(t.key == 15)=false:=by rw [B.out];rfl
  have M2:(t.key == 16)=false:=by rw [B.out];rfl
  have N2:(t.key == 17)=true:=by rw [B.out];rfl
  have O0:=B.out;have B0:=Lh_ (asg_17 (d:=d) (v:=v) O0);clear O0;cases bn
  ·
   have I0:=P0.out.1 0 _ rfl;go_wp2_with fail;go_meet;rw [B0.out,if_neg (by rw [F.out];decide)];exact Lh_ ⟨h,H.out,L.out,I.out,A.out⟩
  have I0:=P0.out.1 0 _ rfl;go_upto_region 34 with fail
  clear I0;have W0:=L.out.1 7 _ rfl;have J2:=L.out.2.1;go_wp2_with fail;go_meet;rw [B0.out,if_pos F.out];exact Lh_ ⟨h,H.out.setCell (Nat.le_refl _) _,L.out.set_ (j:=7) (by show 7<14;omega) _,I.out.far (fun e=>by have:=HZ.out;omega) _,(show DFr _ _ _ _ from ⟨(A.out.set_ (.inr (.inl rfl)) 7 (.string v)).1,(A.out.set_ (.inr (.inl rfl)) 7 (.string v)).2.1,(A.out.set_ (.inr (.inl rfl)) 7 (.string v)).2.2.1,(A.out.set_ (.inr (.inl rfl)) 7 (.string v)).2.2.2.1,(A.out.set_ (.inr (.inl rfl)) 7 (.string v)).2.2.2.2.1,(A.out.set_ (.inr (.inl rfl)) 7 (.string v)).2.2.2.2.2.1,⟨A.out.2.2.2.2.2.2.1,A.out.2.2.2.2.2.2.2.1,(by have:=HV.out;show v.size≤maxLen;unfold maxLen;omega),A.out.2.2.2.2.2.2.2.2.2⟩⟩)⟩
 case rest =>
 obtain ⟨G,J0,W,K0,X⟩:=hcut.out;obtain ⟨d6,hd6⟩:∃ z,asgD d t v=z:=⟨_,rfl⟩;rw [hd6] at W X;have T0:=Lh_ hd6;have R0:=Lh_ J0;have S0:=Lh_ W;have C0:=Lh_ K0;have U0:=Lh_ X;clear J0 W K0 X hd6 hcut;obtain ⟨A2,B2,C2,D2,E2,F2,G2,W0,H2,I2,P1,Q1,R1,S1⟩:=s14_ S0.out.1;obtain ⟨Y0,Z0,A1,B1,C1,D1,E1,F1,G1,H1,E0,F0,G0,H0⟩:=s14_ C0.out.1;have X0:=C0.out.2.1;go_wp2;refine bodyPost_ret (v:=.agg #[.slice G.a0 d6.props.length G.c0,.slice G.a1 d6.tags.length G.c1,.slice G.a2 d6.links.length G.c2,.slice G.a3 d6.run.length G.c3,.slice G.a4 d6.load.length G.c4,.string d6.nm,.int .i64 d6.prio,.string d6.owner,.string d6.group,.int .i64 d6.mode,.string d6.res,.int .i64 d6.calls,.int .i64 d6.ticks,.slice G.a5 d6.closed.length G.c5]) (by simp [results,Tryz.results57,go_sem,Y0,Z0,A1,B1,C1,D1,E1,F1,G1,H1,E0,F0,G0,H0,X0]) rfl ?_;rw [T0.out];exact DPost.fin (h:=G) R0.out (by have:=HZ.out;omega) (fun _=>.inl) (.inr (.inr (.inr rfl))) U0.out _ _ _ _ _ _ _ _ _ _ _ _ _ _
set_option maxRecDepth 100000 in
set_option maxHeartbeats 8000000 in
theorem RAsg_k18 (d:Draft) (h:DH) (t:Term4) (v:ByteArray) (N:Nat→Prop) (w:World) (hN:∀ x,N x→x<w.heap.size) (hd:DFr N w d h) (hs:SoundD d) (ht:okT t) (hv:v.size≤1000) (hok:Ok w) (h7:Ok7 w) (hkey:t.key=18) :
  Calls Tryz.prog 57 #[.agg #[.slice h.a0 d.props.length h.c0,.slice h.a1 d.tags.length h.c1,.slice h.a2 d.links.length h.c2,.slice h.a3 d.run.length h.c3,.slice h.a4 d.load.length h.c4,.string d.nm,.int .i64 d.prio,.string d.owner,.string d.group,.int .i64 d.mode,.string d.res,.int .i64 d.calls,.int .i64 d.ticks,.slice h.a5 d.closed.length h.c5],.agg #[.int .i64 t.key,.string t.nm,.int .i64 t.op,.string t.val],.string v] w (DPost N (asgD d t v) w):=by
 have B:=Lh_ hkey;clear hkey;have HN:=Lh_ hN;have Y1:=Lh_ hs;have HV:=Lh_ hv;have HT:=Lh_ ht;have HD:=Lh_ hd;have X1:=Lh_ hok;have H7:=Lh_ h7;clear hN hs hv ht hd hok h7;have L1:=(zero_of_info (P:=Tryz.prog) (t:=30) info_draft2).1;go_enter Tryz.func57,Tryz.ntmps57;go_upto_region 1 with fail
 obtain ⟨S,L0,J,O,U⟩:=bx_ w [.slice h.a0 d.props.length h.c0,.slice h.a1 d.tags.length h.c1,.slice h.a2 d.links.length h.c2,.slice h.a3 d.run.length h.c3,.slice h.a4 d.load.length h.c4,.string d.nm,.int .i64 d.prio,.string d.owner,.string d.group,.int .i64 d.mode,.string d.res,.int .i64 d.calls,.int .i64 d.ticks,.slice h.a5 d.closed.length h.c5] 30;try simp only [L0]
 have M1:=Lh_ (show w.heap.size≤S.heap.size from J.size);have Z:=Lh_ J;clear L0 J;try rw [← O.out]
 obtain ⟨M,M0,E,Q,V⟩:=bx_ S [.int .i64 t.key,.string t.nm,.int .i64 t.op,.string t.val] 35;try simp only [M0]
 have N1:=Lh_ (show S.heap.size≤M.heap.size from E.size);have A0:=tb_ Z E;have I1:=kb_ U E;clear M0 E;try rw [← Q.out]
 obtain ⟨Y,N0,C,R,I⟩:=bx_ M [.slice none 0 0,.slice none 0 0,.slice none 0 0,.slice none 0 0,.slice none 0 0,.string ByteArray.empty,.int .i64 0,.string ByteArray.empty,.string ByteArray.empty,.int .i64 0,.string ByteArray.empty,.int .i64 0,.int .i64 0,.slice none 0 0] 30;try simp only [N0]
 have O1:=Lh_ (show M.heap.size≤Y.heap.size from C.size);have H:=tb_ A0 C;have L:=kb_ I1 C;have P0:=kb_ V C;clear N0 C;try rw [← R.out]
 clear L1;have HZ:=Lh_ (show w.heap.size<S.heap.size∧S.heap.size<M.heap.size∧M.heap.size<Y.heap.size by have:=O.out;have:=Q.out;have:=R.out;omega);have A:=Lh_ (show DFr (fun x=>N x∨x=w.heap.size∨x=S.heap.size∨x=M.heap.size) Y d h from dfr_new HD.out H.out (fun x hx=>by have:=HZ.out;rcases hx with hx | rfl | rfl | rfl;exact .inl hx;exact .inr (Nat.le_refl _);exact .inr (by omega);exact .inr (by omega)));have W1:=Lh_ (show ∀ x,(fun x=>N x∨x=w.heap.size∨x=S.heap.size∨x=M.heap.size) x→x<Y.heap.size from fun x hx=>by have:=HZ.out;rcases hx with h | h | h | h;(have:=HN.out x h;omega);omega;omega;omega);have Z1:=Lh_ (Below.refl Y.heap.size Y);go_cut [7,8] (fun s7 s8 wx=>s7=.bool (validB v)∧s8=.bool (fullT v)∧wx=Y)
 case first =>
  go_wp2_with fail;refine (RValid_any v _ (by have:=HV.out;unfold maxLen;omega)).mono ?_;rintro e w9 ⟨rfl,D⟩;rw [← D];clear D w9;obtain ⟨bn,hbn⟩:∃ z,validB v=z:=⟨_,rfl⟩;rw [hbn];have F:=Lh_ hbn;clear hbn;go_wp2_with fail;refine (RText_any v _ (by have:=HV.out;unfold maxLen;omega)).mono ?_;rintro e w9 ⟨rfl,D⟩;rw [← D];clear D w9;obtain ⟨tx,htx⟩:∃ z,textB v=z:=⟨_,rfl⟩;rw [htx];have D0:=Lh_ htx;clear htx;cases tx
  ·
   go_wp2_with fail;go_meet;exact ⟨by rw [F.out],by unfold fullT;rw [D0.out,Bool.and_false],rfl⟩
  by_cases hve:v.toList.isEmpty=true
  ·
   obtain ⟨p1,p2⟩:=empties hve;have T:=Lh_ hve;clear hve;go_wp2_with fail;go_meet;exact ⟨by rw [F.out],by unfold fullT;rw [T.out];rfl,rfl⟩
  have K:v.toList.isEmpty=false:=by simpa using hve
  obtain ⟨p1,p2⟩:=empties K;have T:=Lh_ K;clear hve K;go_wp2_with fail;go_meet;exact ⟨by rw [F.out],by unfold fullT;rw [T.out,D0.out];rfl,rfl⟩
 case rest =>
 obtain ⟨J1,K1,D⟩:=hcut;subst J1 K1;rw [D];clear D wc;obtain ⟨bn,hbn⟩:∃ z,validB v=z:=⟨_,rfl⟩;obtain ⟨bt,hbt⟩:∃ z,fullT v=z:=⟨_,rfl⟩;rw [hbn,hbt];have F:=Lh_ hbn;have T1:=Lh_ hbt;clear hbn hbt;refine ‹∀ (a:Act) (w_1:World),Code.wp _ _ _ a w_1→_› _ _ ?_;refine wp_seq_k fun K2 hK2=>?_
 go_cut [] (fun wx=>Hid (AsgSt (fun x=>N x∨x=w.heap.size∨x=S.heap.size∨x=M.heap.size) w w.heap.size M.heap.size (asgD d t v) wx))
 case first =>
  have e6:(t.key == 6)=false:=by rw [B.out];rfl
  have e7:(t.key == 7)=false:=by rw [B.out];rfl
  have L2:(t.key == 15)=false:=by rw [B.out];rfl
  have M2:(t.key == 16)=false:=by rw [B.out];rfl
  have N2:(t.key == 17)=false:=by rw [B.out];rfl
  have O2:(t.key == 18)=true:=by rw [B.out];rfl
  have O0:=B.out;have B0:=Lh_ (asg_18 (d:=d) (v:=v) O0);clear O0;cases bn
  ·
   have I0:=P0.out.1 0 _ rfl;go_wp2_with fail;go_meet;rw [B0.out,if_neg (by rw [F.out];decide)];exact Lh_ ⟨h,H.out,L.out,I.out,A.out⟩
  have I0:=P0.out.1 0 _ rfl;go_upto_region 37 with fail
  clear I0;have W0:=L.out.1 8 _ rfl;have J2:=L.out.2.1;go_wp2_with fail;go_meet;rw [B0.out,if_pos F.out];exact Lh_ ⟨h,H.out.setCell (Nat.le_refl _) _,L.out.set_ (j:=8) (by show 8<14;omega) _,I.out.far (fun e=>by have:=HZ.out;omega) _,(show DFr _ _ _ _ from ⟨(A.out.set_ (.inr (.inl rfl)) 8 (.string v)).1,(A.out.set_ (.inr (.inl rfl)) 8 (.string v)).2.1,(A.out.set_ (.inr (.inl rfl)) 8 (.string v)).2.2.1,(A.out.set_ (.inr (.inl rfl)) 8 (.string v)).2.2.2.1,(A.out.set_ (.inr (.inl rfl)) 8 (.string v)).2.2.2.2.1,(A.out.set_ (.inr (.inl rfl)) 8 (.string v)).2.2.2.2.2.1,⟨A.out.2.2.2.2.2.2.1,A.out.2.2.2.2.2.2.2.1,A.out.2.2.2.2.2.2.2.2.1,(by have:=HV.out;show v.size≤maxLen;unfold maxLen;omega),A.out.2.2.2.2.2.2.2.2.2.2⟩⟩)⟩
 case rest =>
 obtain ⟨G,J0,W,K0,X⟩:=hcut.out;obtain ⟨d6,hd6⟩:∃ z,asgD d t v=z:=⟨_,rfl⟩;rw [hd6] at W X;have T0:=Lh_ hd6;have R0:=Lh_ J0;have S0:=Lh_ W;have C0:=Lh_ K0;have U0:=Lh_ X;clear J0 W K0 X hd6 hcut;obtain ⟨A2,B2,C2,D2,E2,F2,G2,H2,W0,I2,P1,Q1,R1,S1⟩:=s14_ S0.out.1;obtain ⟨Y0,Z0,A1,B1,C1,D1,E1,F1,G1,H1,E0,F0,G0,H0⟩:=s14_ C0.out.1;have X0:=C0.out.2.1;go_wp2;refine bodyPost_ret (v:=.agg #[.slice G.a0 d6.props.length G.c0,.slice G.a1 d6.tags.length G.c1,.slice G.a2 d6.links.length G.c2,.slice G.a3 d6.run.length G.c3,.slice G.a4 d6.load.length G.c4,.string d6.nm,.int .i64 d6.prio,.string d6.owner,.string d6.group,.int .i64 d6.mode,.string d6.res,.int .i64 d6.calls,.int .i64 d6.ticks,.slice G.a5 d6.closed.length G.c5]) (by simp [results,Tryz.results57,go_sem,Y0,Z0,A1,B1,C1,D1,E1,F1,G1,H1,E0,F0,G0,H0,X0]) rfl ?_;rw [T0.out];exact DPost.fin (h:=G) R0.out (by have:=HZ.out;omega) (fun _=>.inl) (.inr (.inr (.inr rfl))) U0.out _ _ _ _ _ _ _ _ _ _ _ _ _ _
set_option maxRecDepth 100000 in
set_option maxHeartbeats 8000000 in
theorem RAsg_k19 (d:Draft) (h:DH) (t:Term4) (v:ByteArray) (N:Nat→Prop) (w:World) (hN:∀ x,N x→x<w.heap.size) (hd:DFr N w d h) (hs:SoundD d) (ht:okT t) (hv:v.size≤1000) (hok:Ok w) (h7:Ok7 w) (hkey:t.key=19) :
  Calls Tryz.prog 57 #[.agg #[.slice h.a0 d.props.length h.c0,.slice h.a1 d.tags.length h.c1,.slice h.a2 d.links.length h.c2,.slice h.a3 d.run.length h.c3,.slice h.a4 d.load.length h.c4,.string d.nm,.int .i64 d.prio,.string d.owner,.string d.group,.int .i64 d.mode,.string d.res,.int .i64 d.calls,.int .i64 d.ticks,.slice h.a5 d.closed.length h.c5],.agg #[.int .i64 t.key,.string t.nm,.int .i64 t.op,.string t.val],.string v] w (DPost N (asgD d t v) w):=by
 have A:=Lh_ hkey;clear hkey;have HN:=Lh_ hN;have C2:=Lh_ hs;have HV:=Lh_ hv;have HT:=Lh_ ht;have HD:=Lh_ hd;have B2:=Lh_ hok;have H7:=Lh_ h7;clear hN hs hv ht hd hok h7;have O1:=(zero_of_info (P:=Tryz.prog) (t:=30) info_draft2).1;go_enter Tryz.func57,Tryz.ntmps57;go_upto_region 1 with fail
 obtain ⟨S,M0,I,O,V⟩:=bx_ w [.slice h.a0 d.props.length h.c0,.slice h.a1 d.tags.length h.c1,.slice h.a2 d.links.length h.c2,.slice h.a3 d.run.length h.c3,.slice h.a4 d.load.length h.c4,.string d.nm,.int .i64 d.prio,.string d.owner,.string d.group,.int .i64 d.mode,.string d.res,.int .i64 d.calls,.int .i64 d.ticks,.slice h.a5 d.closed.length h.c5] 30;try simp only [M0]
 have Q1:=Lh_ (show w.heap.size≤S.heap.size from I.size);have A0:=Lh_ I;clear M0 I;try rw [← O.out]
 obtain ⟨M,N0,E,Q,W⟩:=bx_ S [.int .i64 t.key,.string t.nm,.int .i64 t.op,.string t.val] 35;try simp only [N0]
 have R1:=Lh_ (show S.heap.size≤M.heap.size from E.size);have B0:=tb_ A0 E;have J1:=kb_ V E;clear N0 E;try rw [← Q.out]
 obtain ⟨Z,O0,D,R,H⟩:=bx_ M [.slice none 0 0,.slice none 0 0,.slice none 0 0,.slice none 0 0,.slice none 0 0,.string ByteArray.empty,.int .i64 0,.string ByteArray.empty,.string ByteArray.empty,.int .i64 0,.string ByteArray.empty,.int .i64 0,.int .i64 0,.slice none 0 0] 30;try simp only [O0]
 have S1:=Lh_ (show M.heap.size≤Z.heap.size from D.size);have G:=tb_ B0 D;have L:=kb_ J1 D;have P1:=kb_ W D;clear O0 D;try rw [← R.out]
 clear O1;have HZ:=Lh_ (show w.heap.size<S.heap.size∧S.heap.size<M.heap.size∧M.heap.size<Z.heap.size by have:=O.out;have:=Q.out;have:=R.out;omega);have B:=Lh_ (show DFr (fun x=>N x∨x=w.heap.size∨x=S.heap.size∨x=M.heap.size) Z d h from dfr_new HD.out G.out (fun x hx=>by have:=HZ.out;rcases hx with hx | rfl | rfl | rfl;exact .inl hx;exact .inr (Nat.le_refl _);exact .inr (by omega);exact .inr (by omega)));have A2:=Lh_ (show ∀ x,(fun x=>N x∨x=w.heap.size∨x=S.heap.size∨x=M.heap.size) x→x<Z.heap.size from fun x hx=>by have:=HZ.out;rcases hx with h | h | h | h;(have:=HN.out x h;omega);omega;omega;omega);have D2:=Lh_ (Below.refl Z.heap.size Z);go_cut [7,8] (fun s7 s8 wx=>s7=.bool (validB v)∧s8=.bool (fullT v)∧wx=Z)
 case first =>
  go_wp2_with fail;refine (RValid_any v _ (by have:=HV.out;unfold maxLen;omega)).mono ?_;rintro e w9 ⟨rfl,C⟩;rw [← C];clear C w9;obtain ⟨bn,hbn⟩:∃ z,validB v=z:=⟨_,rfl⟩;rw [hbn];have K:=Lh_ hbn;clear hbn;go_wp2_with fail;refine (RText_any v _ (by have:=HV.out;unfold maxLen;omega)).mono ?_;rintro e w9 ⟨rfl,C⟩;rw [← C];clear C w9;obtain ⟨tx,htx⟩:∃ z,textB v=z:=⟨_,rfl⟩;rw [htx];have F0:=Lh_ htx;clear htx;cases tx
  ·
   go_wp2_with fail;go_meet;exact ⟨by rw [K.out],by unfold fullT;rw [F0.out,Bool.and_false],rfl⟩
  by_cases hve:v.toList.isEmpty=true
  ·
   obtain ⟨p1,p2⟩:=empties hve;have U:=Lh_ hve;clear hve;go_wp2_with fail;go_meet;exact ⟨by rw [K.out],by unfold fullT;rw [U.out];rfl,rfl⟩
  have J:v.toList.isEmpty=false:=by simpa using hve
  obtain ⟨p1,p2⟩:=empties J;have U:=Lh_ J;clear hve J;go_wp2_with fail;go_meet;exact ⟨by rw [K.out],by unfold fullT;rw [U.out,F0.out];rfl,rfl⟩
 case rest =>
 obtain ⟨K1,L1,C⟩:=hcut;subst K1 L1;rw [C];clear C wc;obtain ⟨bn,hbn⟩:∃ z,validB v=z:=⟨_,rfl⟩;obtain ⟨bt,hbt⟩:∃ z,fullT v=z:=⟨_,rfl⟩;rw [hbn,hbt];have K:=Lh_ hbn;have X1:=Lh_ hbt;clear hbn hbt;refine ‹∀ (a:Act) (w_1:World),Code.wp _ _ _ a w_1→_› _ _ ?_;refine wp_seq_k fun K2 hK2=>?_
 go_cut [] (fun wx=>Hid (AsgSt (fun x=>N x∨x=w.heap.size∨x=S.heap.size∨x=M.heap.size) w w.heap.size M.heap.size (asgD d t v) wx))
 case first =>
  have e6:(t.key == 6)=false:=by rw [A.out];rfl
  have e7:(t.key == 7)=false:=by rw [A.out];rfl
  have P2:(t.key == 15)=false:=by rw [A.out];rfl
  have Q2:(t.key == 16)=false:=by rw [A.out];rfl
  have R2:(t.key == 17)=false:=by rw [A.out];rfl
  have S2:(t.key == 18)=false:=by rw [A.out];rfl
  have T2:(t.key == 19)=true:=by rw [A.out];rfl
  have P0:=A.out;have C0:=Lh_ (asg_19 (d:=d) (v:=v) P0);clear P0;have I1:=P1.out.1 0 _ rfl;go_wp2_with fail;refine (ROctal_any v _ (by have:=HV.out;unfold maxLen;omega)).mono ?_;rintro e w9 ⟨⟨m,rfl,hm⟩,C⟩;rw [C];clear C w9;cases hoc:octT v with
  | none =>
   have T:=Lh_ hoc;clear hoc hm;have N1:(none:Option Int).isSome=false:=rfl;go_wp2_with fail;go_meet;rw [C0.out,T.out];exact Lh_ ⟨h,G.out,L.out,H.out,B.out⟩
  | some n =>
   obtain rfl:=hm n hoc;have T:=Lh_ hoc;have D0:=Lh_ (oct_range hoc);clear hoc hm;have N1:(some m:Option Int).isSome=true:=rfl;clear I1;have W0:=L.out.1 9 _ rfl;have O2:=L.out.2.1;go_wp2_with fail;go_meet;rw [C0.out,T.out];exact Lh_ ⟨h,G.out.setCell (Nat.le_refl _) _,L.out.set_ (j:=9) (by show 9<14;omega) _,H.out.far (fun e=>by have:=HZ.out;omega) _,(show DFr _ _ _ _ from ⟨(B.out.set_ (.inr (.inl rfl)) 9 (.int .i64 m)).1,(B.out.set_ (.inr (.inl rfl)) 9 (.int .i64 m)).2.1,(B.out.set_ (.inr (.inl rfl)) 9 (.int .i64 m)).2.2.1,(B.out.set_ (.inr (.inl rfl)) 9 (.int .i64 m)).2.2.2.1,(B.out.set_ (.inr (.inl rfl)) 9 (.int .i64 m)).2.2.2.2.1,(B.out.set_ (.inr (.inl rfl)) 9 (.int .i64 m)).2.2.2.2.2.1,⟨B.out.2.2.2.2.2.2.1,B.out.2.2.2.2.2.2.2.1,B.out.2.2.2.2.2.2.2.2.1,B.out.2.2.2.2.2.2.2.2.2.1,okI_small (n:=m) (by have:=D0.out;omega) (by have:=D0.out;omega),B.out.2.2.2.2.2.2.2.2.2.2.2⟩⟩)⟩
 case rest =>
 obtain ⟨F,K0,X,L0,Y⟩:=hcut.out;obtain ⟨d6,hd6⟩:∃ z,asgD d t v=z:=⟨_,rfl⟩;rw [hd6] at X Y;have T0:=Lh_ hd6;have R0:=Lh_ K0;have S0:=Lh_ X;have E0:=Lh_ L0;have U0:=Lh_ Y;clear K0 X L0 Y hd6 hcut;obtain ⟨E2,F2,G2,H2,I2,J2,L2,M2,N2,W0,T1,U1,V1,W1⟩:=s14_ S0.out.1;obtain ⟨Y0,Z0,A1,B1,C1,D1,E1,F1,G1,H1,G0,H0,I0,J0⟩:=s14_ E0.out.1;have X0:=E0.out.2.1;go_wp2;refine bodyPost_ret (v:=.agg #[.slice F.a0 d6.props.length F.c0,.slice F.a1 d6.tags.length F.c1,.slice F.a2 d6.links.length F.c2,.slice F.a3 d6.run.length F.c3,.slice F.a4 d6.load.length F.c4,.string d6.nm,.int .i64 d6.prio,.string d6.owner,.string d6.group,.int .i64 d6.mode,.string d6.res,.int .i64 d6.calls,.int .i64 d6.ticks,.slice F.a5 d6.closed.length F.c5]) (by simp [results,Tryz.results57,go_sem,Y0,Z0,A1,B1,C1,D1,E1,F1,G1,H1,G0,H0,I0,J0,X0]) rfl ?_;rw [T0.out];exact DPost.fin (h:=F) R0.out (by have:=HZ.out;omega) (fun _=>.inl) (.inr (.inr (.inr rfl))) U0.out _ _ _ _ _ _ _ _ _ _ _ _ _ _
end Go.Cold
