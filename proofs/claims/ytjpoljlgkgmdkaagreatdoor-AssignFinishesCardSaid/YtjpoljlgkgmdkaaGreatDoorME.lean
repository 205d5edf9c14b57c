/-
  The walks of device.Check and of the reference's Check of devices.
-/
import Derived.Test.YtjpoljlgkgmdkaaGreatDoorMD
set_option linter.unusedSimpArgs false
set_option linter.unusedVariables false
namespace Go.Cold
open Go Go.RowKit Go.Proofs.YtjpoljlgkgmdkaaGreatDoor
open Go.Proofs hiding intOf
theorem valid_size {s:ByteArray} (h:validB s=true):s.size≤32:=by
 unfold validB at h;simp only [Bool.and_eq_true,decide_eq_true_eq] at h;have:=h.2.1;omega
theorem named_orig {d:Dev} (h:namedB d=true):d.orig.size≤32:=by
 unfold namedB at h;simp only [Bool.and_eq_true] at h;exact valid_size h.2.1
theorem node_small {d:Dev} (h:d.orig.size≤32):(nodeV d).size≤32:=by
 unfold nodeV nodeD;split
 ·
  show (nodeS d.orig).size≤32
  rw [nodeS_size];exact h
 show (0:Nat)≤32
 omega
theorem linkD_yes {d:Dev} (h:(nodeD d).isSome=true):linkD d=linkB (nodeV d):=by
 unfold linkD nodeV;cases hn:nodeD d with
 | none=>rw [hn] at h;cases h
 | some s=>rfl
theorem linkD_no {d:Dev} (h:(nodeD d).isSome=false):linkD d=true:=by
 unfold linkD;cases hn:nodeD d with
 | none=>rfl
 | some s=>rw [hn] at h;cases h
theorem node_kind (d:Dev):(nodeD d).isSome=kindN d.kind:=by unfold nodeD kindN;by_cases h:d.kind=2∨d.kind=3 <;> simp [h]
set_option maxRecDepth 100000 in
set_option maxHeartbeats 8000000 in
theorem RCheck_any (d:Dev) (A:Option Addr) (c:Nat) (w:World) (B:Nat) (hB:B≤w.heap.size) (hd:devOk d) (hx:Sl w B A c d.attrs) (hok:Ok w):Calls Tryz.prog 96 #[.agg #[.int .i64 d.idx,.int .i64 d.par,.string d.nm,.string d.orig,.string d.sub,.string d.drv,.string d.ali,.int .i64 d.kind,.int .i64 d.num,.slice A d.attrs.length c]] w fun e w'=>e=.returned (.int .i64 (checkD d))∧Below w.heap.size w w':=by
 have S0:=Lh_ hok;have HX:=Lh_ hx;have HB:=Lh_ hB;have HD:=Lh_ hd;clear hok hx hB hd;have hl:=HX.out.1;have V3:=HX.out.2.1;unfold maxLen at V3;go_enter Tryz.func96,Tryz.ntmps96;go_upto_region 1 with fail
 obtain ⟨w1,I3,O2,C3,M0⟩:=bx_ w [.int .i64 d.idx,.int .i64 d.par,.string d.nm,.string d.orig,.string d.sub,.string d.drv,.string d.ali,.int .i64 d.kind,.int .i64 d.num,.slice A d.attrs.length c] 84;try simp only [I3]
 have F:=Lh_ O2;clear I3 O2;try rw [← C3.out]
 obtain ⟨K,L,M,N,O,P,Q,R,S,T⟩:=s10_ M0.out.1;by_cases h:d.idx<1
 ·
  have D3:decide (d.idx<1)=true:=decide_eq_true h;have E:=Lh_ (show rangeB d=false by unfold rangeB withinB;rw [Bool.eq_false_iff];intro hc;simp only [Bool.and_eq_true,decide_eq_true_eq] at hc;omega);clear h;go_wp2;go_ret;exact ⟨ret_int (by rw [checkD_eq];simp [E.out]),F.out⟩
 have D3:decide (d.idx<1)=false:=decide_eq_false h;have P3:=Lh_ h;by_cases h:1073741824<d.idx
 ·
  have E3:decide (1073741824<d.idx)=true:=decide_eq_true h;have E:=Lh_ (show rangeB d=false by unfold rangeB withinB;rw [Bool.eq_false_iff];intro hc;simp only [Bool.and_eq_true,decide_eq_true_eq] at hc;omega);clear h;go_wp2;go_ret;exact ⟨ret_int (by rw [checkD_eq];simp [E.out]),F.out⟩
 have E3:decide (1073741824<d.idx)=false:=decide_eq_false h;have Q3:=Lh_ h;by_cases h:d.par<0
 ·
  have F3:decide (d.par<0)=true:=decide_eq_true h;have E:=Lh_ (show rangeB d=false by unfold rangeB withinB;rw [Bool.eq_false_iff];intro hc;simp only [Bool.and_eq_true,decide_eq_true_eq] at hc;omega);clear h;go_wp2;go_ret;exact ⟨ret_int (by rw [checkD_eq];simp [E.out]),F.out⟩
 have F3:decide (d.par<0)=false:=decide_eq_false h;have R3:=Lh_ h;by_cases h:1073741824<d.par
 ·
  have G3:decide (1073741824<d.par)=true:=decide_eq_true h;have E:=Lh_ (show rangeB d=false by unfold rangeB withinB;rw [Bool.eq_false_iff];intro hc;simp only [Bool.and_eq_true,decide_eq_true_eq] at hc;omega);clear h;go_wp2;go_ret;exact ⟨ret_int (by rw [checkD_eq];simp [E.out]),F.out⟩
 have G3:decide (1073741824<d.par)=false:=decide_eq_false h;have S3:=Lh_ h;by_cases h3:d.par=d.idx
 ·
  have e3:(d.par == d.idx)=true:=beq_iff_eq.2 h3;have E:=Lh_ (show rangeB d=false by unfold rangeB;simp [h3]);clear h3;go_wp2;go_ret;exact ⟨ret_int (by rw [checkD_eq];simp [E.out]),F.out⟩
 have e3:(d.par == d.idx)=false:=beq_eq_false_iff_ne.2 h3;have E:=Lh_ (show rangeB d=true by have a1:=P3.out;have a2:=Q3.out;have a3:=R3.out;have a4:=S3.out;unfold rangeB withinB;simp only [Bool.and_eq_true,decide_eq_true_eq,Bool.not_eq_true',decide_eq_false_iff_not];omega);clear h3;go_wp2_with fail;refine (RValid_any d.nm _ HD.out.2.2.1).mono ?_;rintro e w' ⟨rfl,rfl⟩;cases h0:validB d.nm with
 | false =>
  have P0:=Lh_ h0;clear h0;have D:=Lh_ (show namedB d=false by unfold namedB;simp [P0.out]);go_wp2;go_ret;exact ⟨ret_int (by rw [checkD_eq];simp [E.out,D.out]),F.out⟩
 | true =>
  have P0:=Lh_ h0;clear h0;go_wp2_with fail;refine (RValid_any d.orig _ HD.out.2.2.2.1).mono ?_;rintro e w' ⟨rfl,rfl⟩;cases h1:validB d.orig with
  | false =>
   have R0:=Lh_ h1;clear h1;have D:=Lh_ (show namedB d=false by unfold namedB;simp [P0.out,R0.out]);go_wp2;go_ret;exact ⟨ret_int (by rw [checkD_eq];simp [E.out,D.out]),F.out⟩
  | true =>
   have R0:=Lh_ h1;clear h1;go_wp2_with fail;refine (RValid_any d.sub _ HD.out.2.2.2.2.1).mono ?_;rintro e w' ⟨rfl,rfl⟩;cases h2:validB d.sub with
   | false =>
    have V0:=Lh_ h2;clear h2;have D:=Lh_ (show namedB d=false by unfold namedB;simp [P0.out,R0.out,V0.out]);go_wp2;go_ret;exact ⟨ret_int (by rw [checkD_eq];simp [E.out,D.out]),F.out⟩
   | true =>
    have V0:=Lh_ h2;clear h2;cases h3:d.drv.toList.isEmpty with
    | true =>
     have G0:d.drv.toList=[]:=List.isEmpty_iff.1 h3;have L1:=Lh_ h3;go_wp2_with fail;refine (RText_any d.ali _ HD.out.2.2.2.2.2.2.1).mono ?_;rintro e w' ⟨rfl,rfl⟩;cases h5:textB d.ali with
     | false =>
      have W0:=Lh_ h5;clear h5;have D:=Lh_ (show namedB d=false by unfold namedB;simp [P0.out,R0.out,V0.out,L1.out,W0.out]);go_wp2;go_ret;exact ⟨ret_int (by rw [checkD_eq];simp [E.out,D.out]),F.out⟩
     | true =>
      have W0:=Lh_ h5;clear h5;have D:=Lh_ (show namedB d=true by unfold namedB;simp [P0.out,R0.out,V0.out,L1.out,W0.out]);by_cases h:d.kind<1
      ·
       have S1:decide (d.kind<1)=true:=decide_eq_true h;have G:=Lh_ (show kindB d=false by unfold kindB;rw [if_neg (by omega)];rw [decide_eq_false (by omega)];rfl);clear h;go_wp2;go_ret;exact ⟨ret_int (by rw [checkD_eq];simp [E.out,D.out,G.out]),F.out⟩
      have S1:decide (d.kind<1)=false:=decide_eq_false h;have R2:=Lh_ h;by_cases h:4<d.kind
      ·
       have T1:decide (4<d.kind)=true:=decide_eq_true h;have G:=Lh_ (show kindB d=false by unfold kindB;rw [if_neg (by omega)];rw [decide_eq_false (by omega)];rfl);clear h;go_wp2;go_ret;exact ⟨ret_int (by rw [checkD_eq];simp [E.out,D.out,G.out]),F.out⟩
      have T1:decide (4<d.kind)=false:=decide_eq_false h;have S2:=Lh_ h;by_cases h4:d.kind=4
      ·
       have e4:(d.kind == 4)=true:=beq_iff_eq.2 h4;have U2:(d.kind != 4)=false:=by simp [h4]
       have H4:=Lh_ h4;clear h4;go_wp2_with fail;refine (RInterface_any d.nm _ HD.out.2.2.1).mono ?_;rintro e w' ⟨rfl,rfl⟩;cases h1:ifaceB d.nm with
       | false =>
        have G:=Lh_ (show kindB d=false by unfold kindB;rw [if_pos H4.out,h1];rfl);clear h1;go_wp2;go_ret;exact ⟨ret_int (by rw [checkD_eq];simp [E.out,D.out,G.out]),F.out⟩
       | true =>
        have Z:=Lh_ h1;clear h1;go_wp2_with fail;refine (RInterface_any d.orig _ HD.out.2.2.2.1).mono ?_;rintro e w' ⟨rfl,rfl⟩;cases h2:ifaceB d.orig with
        | false =>
         have G:=Lh_ (show kindB d=false by unfold kindB;rw [if_pos H4.out,Z.out,h2];rfl);clear h2;go_wp2;go_ret;exact ⟨ret_int (by rw [checkD_eq];simp [E.out,D.out,G.out]),F.out⟩
        | true =>
         have G:=Lh_ (show kindB d=true by unfold kindB;rw [if_pos H4.out,Z.out,h2];rfl);clear h2;go_wp2_with fail;refine (RNode_any d A c _ (by have:=named_orig D.out;omega) (S0.out.next F.out)).mono ?_;rintro e w2 ⟨rfl,U1⟩;clear K L M N O P Q R S T;have B0:=tb_ F U1;have Y2:=kb_ M0 U1;clear U1;obtain ⟨K,L,M,N,O,P,Q,R,S,T⟩:=s10_ Y2.out.1;cases h9:(nodeD d).isSome with
         | false =>
          have Y:=Lh_ ((node_kind d).symm.trans h9);have HZ:=Lh_ (linkD_no h9);clear h9;by_cases h6:d.num=0
          ·
           have e6:(d.num != 0)=false:=by simp [h6]
           have Z0:(d.num == 0)=true:=beq_iff_eq.2 h6;have H:=Lh_ (show numberB d=true by unfold numberB;rw [if_neg (by rw [Y.out];decide)];exact decide_eq_true h6);clear h6;by_cases h7:d.attrs.length≤24
           ·
            have i7:¬ (24:Int)<(d.attrs.length:Int):=by omega
            have J:=Lh_ h7;clear h7;go_wp2_with fail;have E0:=Lh_ (HX.out.keep (B0.out.mono HB.out));go_loop [5] (fun i=>∃ k:Nat,k≤d.attrs.length∧i=.int .i64 k∧Hid ((d.attrs.take k).all attrB=true)) (fun i=>d.attrs.length - (intOf i).toNat)
            case atStart=>exact ⟨0,Nat.zero_le _,rfl,rfl⟩
            obtain ⟨k,hk,rfl,HA⟩:=hrel;by_cases hlt:k<d.attrs.length
            ·
             obtain ⟨b3,o3,rfl,_,W,J0,K0⟩:=E0.out.attr hlt;have X:d.attrs[k]? = some d.attrs[k]:=List.getElem?_eq_getElem hlt;obtain ⟨x,hx⟩:∃ x,d.attrs[k]'hlt=x:=⟨_,rfl⟩;rw [hx] at J0 K0 W X;have I:=Lh_ X;have D0:=Lh_ W;clear hx X W;have i1:(k:Int)<(d.attrs.length:Int):=by omega
             go_wp2_with fail;refine (RValid_any x.name _ D0.out.1).mono ?_;rintro e w' ⟨rfl,rfl⟩;cases h1:validB x.name with
             | false =>
              have Z:=Lh_ h1;clear h1;have C:=Lh_ (show attrsB d.attrs=false by unfold attrsB;rw [all_stop (p:=attrB) I.out (by unfold attrB;simp [Z.out]),Bool.and_false]);go_wp2;go_ret;exact ⟨ret_int (by rw [checkD_eq];simp [E.out,D.out,G.out,H.out,J.out,C.out]),B0.out⟩
             | true =>
              have Z:=Lh_ h1;clear h1;go_wp2_with fail;refine (RText_any x.value _ D0.out.2).mono ?_;rintro e w' ⟨rfl,rfl⟩;cases h2:textB x.value with
              | false =>
               have H2:=Lh_ h2;clear h2;have C:=Lh_ (show attrsB d.attrs=false by unfold attrsB;rw [all_stop (p:=attrB) I.out (by unfold attrB;simp [Z.out,H2.out]),Bool.and_false]);go_wp2;go_ret;exact ⟨ret_int (by rw [checkD_eq];simp [E.out,D.out,G.out,H.out,J.out,C.out]),B0.out⟩
              | true =>
               have H2:=Lh_ h2;clear h2;cases h3:x.value.toList.isEmpty with
               | true =>
                have G0:x.value.toList=[]:=List.isEmpty_iff.1 h3;have H3:=Lh_ h3;have C:=Lh_ (show attrsB d.attrs=false by unfold attrsB;rw [all_stop (p:=attrB) I.out (by unfold attrB;simp [Z.out,H2.out,H3.out]),Bool.and_false]);go_wp2;go_ret;exact ⟨ret_int (by rw [checkD_eq];simp [E.out,D.out,G.out,H.out,J.out,C.out]),B0.out⟩
               | false =>
                have G0:¬ x.value.toList=[]:=fun h=>by rw [h] at h3;cases h3
                have H3:=Lh_ h3;go_wp2;go_round
                case rel=>exact ⟨k+1,by omega,by go_num,all_step HA.out I.out (by unfold attrB;simp [Z.out,H2.out,H3.out])⟩
                simp [intOf];omega
            have i1:¬ (k:Int)<(d.attrs.length:Int):=by omega
            have A0:=Lh_ (all_end HA.out (by omega));go_wp2_with fail;refine (RSorted_any A c d.attrs _ B E0.out).mono ?_;rintro e w3 ⟨rfl,V1⟩;clear K L M N O P Q R S T;have K2:=tb_ B0 V1;have W3:=kb_ Y2 V1;clear V1;obtain ⟨K,L,M,N,O,P,Q,R,S,T⟩:=s10_ W3.out.1;cases hs:sortedA d.attrs with
            | false =>
             have C:=Lh_ (show attrsB d.attrs=false by unfold attrsB;rw [hs];rfl);clear hs;go_wp2;go_ret;exact ⟨ret_int (by rw [checkD_eq];simp [E.out,D.out,G.out,H.out,J.out,C.out]),K2.out⟩
            | true =>
             have C:=Lh_ (show attrsB d.attrs=true by unfold attrsB;rw [hs,A0.out];rfl);clear hs;go_wp2;go_ret;exact ⟨ret_int (by rw [checkD_eq];simp [E.out,D.out,G.out,H.out,J.out,C.out,HZ.out]),K2.out⟩
           have i7:(24:Int)<(d.attrs.length:Int):=by omega
           have J:=Lh_ h7;clear h7;go_wp2;go_ret;exact ⟨ret_int (by rw [checkD_eq];simp [E.out,D.out,G.out,H.out,J.out]),B0.out⟩
          have e6:(d.num != 0)=true:=by simp [h6]
          have Z0:(d.num == 0)=false:=beq_eq_false_iff_ne.2 h6;have H:=Lh_ (show numberB d=false by unfold numberB;rw [if_neg (by rw [Y.out];decide)];exact decide_eq_false h6);clear h6;go_wp2;go_ret;exact ⟨ret_int (by rw [checkD_eq];simp [E.out,D.out,G.out,H.out]),B0.out⟩
         | true =>
          have Y:=Lh_ ((node_kind d).symm.trans h9);have HZ:=Lh_ (linkD_yes h9);clear h9;by_cases h:d.num<1
          ·
           have N0:decide (d.num<1)=true:=decide_eq_true h;have H:=Lh_ (show numberB d=false by unfold numberB withinB;rw [if_pos Y.out];rw [Bool.eq_false_iff];intro hc;simp only [Bool.and_eq_true,decide_eq_true_eq] at hc;omega);clear h;go_wp2;go_ret;exact ⟨ret_int (by rw [checkD_eq];simp [E.out,D.out,G.out,H.out]),B0.out⟩
          have N0:decide (d.num<1)=false:=decide_eq_false h;have X0:=Lh_ h;by_cases h:1073741824<d.num
          ·
           have O0:decide (1073741824<d.num)=true:=decide_eq_true h;have H:=Lh_ (show numberB d=false by unfold numberB withinB;rw [if_pos Y.out];rw [Bool.eq_false_iff];intro hc;simp only [Bool.and_eq_true,decide_eq_true_eq] at hc;omega);clear h;go_wp2;go_ret;exact ⟨ret_int (by rw [checkD_eq];simp [E.out,D.out,G.out,H.out]),B0.out⟩
          have O0:decide (1073741824<d.num)=false:=decide_eq_false h;have Y0:=Lh_ h;have H:=Lh_ (show numberB d=true by have a1:=X0.out;have a2:=Y0.out;unfold numberB withinB;rw [if_pos Y.out];simp only [Bool.and_eq_true,decide_eq_true_eq];omega);by_cases h7:d.attrs.length≤24
          ·
           have i7:¬ (24:Int)<(d.attrs.length:Int):=by omega
           have J:=Lh_ h7;clear h7;go_wp2_with fail;have E0:=Lh_ (HX.out.keep (B0.out.mono HB.out));go_loop [5] (fun i=>∃ k:Nat,k≤d.attrs.length∧i=.int .i64 k∧Hid ((d.attrs.take k).all attrB=true)) (fun i=>d.attrs.length - (intOf i).toNat)
           case atStart=>exact ⟨0,Nat.zero_le _,rfl,rfl⟩
           obtain ⟨k,hk,rfl,HA⟩:=hrel;by_cases hlt:k<d.attrs.length
           ·
            obtain ⟨b3,o3,rfl,_,W,J0,K0⟩:=E0.out.attr hlt;have X:d.attrs[k]? = some d.attrs[k]:=List.getElem?_eq_getElem hlt;obtain ⟨x,hx⟩:∃ x,d.attrs[k]'hlt=x:=⟨_,rfl⟩;rw [hx] at J0 K0 W X;have I:=Lh_ X;have D0:=Lh_ W;clear hx X W;have i1:(k:Int)<(d.attrs.length:Int):=by omega
            go_wp2_with fail;refine (RValid_any x.name _ D0.out.1).mono ?_;rintro e w' ⟨rfl,rfl⟩;cases h1:validB x.name with
            | false =>
             have Z:=Lh_ h1;clear h1;have C:=Lh_ (show attrsB d.attrs=false by unfold attrsB;rw [all_stop (p:=attrB) I.out (by unfold attrB;simp [Z.out]),Bool.and_false]);go_wp2;go_ret;exact ⟨ret_int (by rw [checkD_eq];simp [E.out,D.out,G.out,H.out,J.out,C.out]),B0.out⟩
            | true =>
             have Z:=Lh_ h1;clear h1;go_wp2_with fail;refine (RText_any x.value _ D0.out.2).mono ?_;rintro e w' ⟨rfl,rfl⟩;cases h2:textB x.value with
             | false =>
              have H2:=Lh_ h2;clear h2;have C:=Lh_ (show attrsB d.attrs=false by unfold attrsB;rw [all_stop (p:=attrB) I.out (by unfold attrB;simp [Z.out,H2.out]),Bool.and_false]);go_wp2;go_ret;exact ⟨ret_int (by rw [checkD_eq];simp [E.out,D.out,G.out,H.out,J.out,C.out]),B0.out⟩
             | true =>
              have H2:=Lh_ h2;clear h2;cases h3:x.value.toList.isEmpty with
              | true =>
               have G0:x.value.toList=[]:=List.isEmpty_iff.1 h3;have H3:=Lh_ h3;have C:=Lh_ (show attrsB d.attrs=false by unfold attrsB;rw [all_stop (p:=attrB) I.out (by unfold attrB;simp [Z.out,H2.out,H3.out]),Bool.and_false]);go_wp2;go_ret;exact ⟨ret_int (by rw [checkD_eq];simp [E.out,D.out,G.out,H.out,J.out,C.out]),B0.out⟩
              | false =>
               have G0:¬ x.value.toList=[]:=fun h=>by rw [h] at h3;cases h3
               have H3:=Lh_ h3;go_wp2;go_round
               case rel=>exact ⟨k+1,by omega,by go_num,all_step HA.out I.out (by unfold attrB;simp [Z.out,H2.out,H3.out])⟩
               simp [intOf];omega
           have i1:¬ (k:Int)<(d.attrs.length:Int):=by omega
           have A0:=Lh_ (all_end HA.out (by omega));go_wp2_with fail;refine (RSorted_any A c d.attrs _ B E0.out).mono ?_;rintro e w4 ⟨rfl,W1⟩;clear K L M N O P Q R S T;have Q1:=tb_ B0 W1;have N3:=kb_ Y2 W1;clear W1;obtain ⟨K,L,M,N,O,P,Q,R,S,T⟩:=s10_ N3.out.1;cases hs:sortedA d.attrs with
           | false =>
            have C:=Lh_ (show attrsB d.attrs=false by unfold attrsB;rw [hs];rfl);clear hs;go_wp2;go_ret;exact ⟨ret_int (by rw [checkD_eq];simp [E.out,D.out,G.out,H.out,J.out,C.out]),Q1.out⟩
           | true =>
            have C:=Lh_ (show attrsB d.attrs=true by unfold attrsB;rw [hs,A0.out];rfl);clear hs;go_wp2_with fail;refine (RLink_any (nodeV d) _ (by have:=node_small (named_orig D.out);omega) (S0.out.next Q1.out)).mono ?_;rintro e w5 ⟨rfl,X1⟩;clear K L M N O P Q R S T;have L2:=tb_ Q1 X1;have X3:=kb_ N3 X1;clear X1;obtain ⟨K,L,M,N,O,P,Q,R,S,T⟩:=s10_ X3.out.1;cases h10:linkB (nodeV d) with
            | false =>
             have I0:=Lh_ (HZ.out.trans h10);clear h10;go_wp2;go_ret;exact ⟨ret_int (by rw [checkD_eq];simp [E.out,D.out,G.out,H.out,J.out,C.out,I0.out]),L2.out⟩
            | true =>
             have I0:=Lh_ (HZ.out.trans h10);clear h10;go_wp2;go_ret;exact ⟨ret_int (by rw [checkD_eq];simp [E.out,D.out,G.out,H.out,J.out,C.out,I0.out]),L2.out⟩
          have i7:(24:Int)<(d.attrs.length:Int):=by omega
          have J:=Lh_ h7;clear h7;go_wp2;go_ret;exact ⟨ret_int (by rw [checkD_eq];simp [E.out,D.out,G.out,H.out,J.out]),B0.out⟩
      have e4:(d.kind == 4)=false:=beq_eq_false_iff_ne.2 h4;have U2:(d.kind != 4)=true:=by simp [h4]
      have H4:=Lh_ h4;by_cases h5:d.nm=d.orig
      ·
       have e5:(d.nm.toList == d.orig.toList)=true:=by rw [ba_beq];exact decide_eq_true h5
       have G:=Lh_ (show kindB d=true by have a1:=R2.out;have a2:=S2.out;unfold kindB;rw [if_neg h4,decide_eq_true h5,decide_eq_true (by omega)];rfl);clear h4 h5;go_wp2_with fail;refine (RNode_any d A c _ (by have:=named_orig D.out;omega) (S0.out.next F.out)).mono ?_;rintro e w6 ⟨rfl,Y1⟩;clear K L M N O P Q R S T;have C0:=tb_ F Y1;have Z2:=kb_ M0 Y1;clear Y1;obtain ⟨K,L,M,N,O,P,Q,R,S,T⟩:=s10_ Z2.out.1;cases h9:(nodeD d).isSome with
       | false =>
        have Y:=Lh_ ((node_kind d).symm.trans h9);have HZ:=Lh_ (linkD_no h9);clear h9;by_cases h6:d.num=0
        ·
         have e6:(d.num != 0)=false:=by simp [h6]
         have Z0:(d.num == 0)=true:=beq_iff_eq.2 h6;have H:=Lh_ (show numberB d=true by unfold numberB;rw [if_neg (by rw [Y.out];decide)];exact decide_eq_true h6);clear h6;by_cases h7:d.attrs.length≤24
         ·
          have i7:¬ (24:Int)<(d.attrs.length:Int):=by omega
          have J:=Lh_ h7;clear h7;go_wp2_with fail;have E0:=Lh_ (HX.out.keep (C0.out.mono HB.out));go_loop [5] (fun i=>∃ k:Nat,k≤d.attrs.length∧i=.int .i64 k∧Hid ((d.attrs.take k).all attrB=true)) (fun i=>d.attrs.length - (intOf i).toNat)
          case atStart=>exact ⟨0,Nat.zero_le _,rfl,rfl⟩
          obtain ⟨k,hk,rfl,HA⟩:=hrel;by_cases hlt:k<d.attrs.length
          ·
           obtain ⟨b3,o3,rfl,_,W,J0,K0⟩:=E0.out.attr hlt;have X:d.attrs[k]? = some d.attrs[k]:=List.getElem?_eq_getElem hlt;obtain ⟨x,hx⟩:∃ x,d.attrs[k]'hlt=x:=⟨_,rfl⟩;rw [hx] at J0 K0 W X;have I:=Lh_ X;have D0:=Lh_ W;clear hx X W;have i1:(k:Int)<(d.attrs.length:Int):=by omega
           go_wp2_with fail;refine (RValid_any x.name _ D0.out.1).mono ?_;rintro e w' ⟨rfl,rfl⟩;cases h1:validB x.name with
           | false =>
            have Z:=Lh_ h1;clear h1;have C:=Lh_ (show attrsB d.attrs=false by unfold attrsB;rw [all_stop (p:=attrB) I.out (by unfold attrB;simp [Z.out]),Bool.and_false]);go_wp2;go_ret;exact ⟨ret_int (by rw [checkD_eq];simp [E.out,D.out,G.out,H.out,J.out,C.out]),C0.out⟩
           | true =>
            have Z:=Lh_ h1;clear h1;go_wp2_with fail;refine (RText_any x.value _ D0.out.2).mono ?_;rintro e w' ⟨rfl,rfl⟩;cases h2:textB x.value with
            | false =>
             have H2:=Lh_ h2;clear h2;have C:=Lh_ (show attrsB d.attrs=false by unfold attrsB;rw [all_stop (p:=attrB) I.out (by unfold attrB;simp [Z.out,H2.out]),Bool.and_false]);go_wp2;go_ret;exact ⟨ret_int (by rw [checkD_eq];simp [E.out,D.out,G.out,H.out,J.out,C.out]),C0.out⟩
            | true =>
             have H2:=Lh_ h2;clear h2;cases h3:x.value.toList.isEmpty with
             | true =>
              have G0:x.value.toList=[]:=List.isEmpty_iff.1 h3;have H3:=Lh_ h3;have C:=Lh_ (show attrsB d.attrs=false by unfold attrsB;rw [all_stop (p:=attrB) I.out (by unfold attrB;simp [Z.out,H2.out,H3.out]),Bool.and_false]);go_wp2;go_ret;exact ⟨ret_int (by rw [checkD_eq];simp [E.out,D.out,G.out,H.out,J.out,C.out]),C0.out⟩
             | false =>
              have G0:¬ x.value.toList=[]:=fun h=>by rw [h] at h3;cases h3
              have H3:=Lh_ h3;go_wp2;go_round
              case rel=>exact ⟨k+1,by omega,by go_num,all_step HA.out I.out (by unfold attrB;simp [Z.out,H2.out,H3.out])⟩
              simp [intOf];omega
          have i1:¬ (k:Int)<(d.attrs.length:Int):=by omega
          have A0:=Lh_ (all_end HA.out (by omega));go_wp2_with fail;refine (RSorted_any A c d.attrs _ B E0.out).mono ?_;rintro e w7 ⟨rfl,Z1⟩;clear K L M N O P Q R S T;have M2:=tb_ C0 Z1;have Y3:=kb_ Z2 Z1;clear Z1;obtain ⟨K,L,M,N,O,P,Q,R,S,T⟩:=s10_ Y3.out.1;cases hs:sortedA d.attrs with
          | false =>
           have C:=Lh_ (show attrsB d.attrs=false by unfold attrsB;rw [hs];rfl);clear hs;go_wp2;go_ret;exact ⟨ret_int (by rw [checkD_eq];simp [E.out,D.out,G.out,H.out,J.out,C.out]),M2.out⟩
          | true =>
           have C:=Lh_ (show attrsB d.attrs=true by unfold attrsB;rw [hs,A0.out];rfl);clear hs;go_wp2;go_ret;exact ⟨ret_int (by rw [checkD_eq];simp [E.out,D.out,G.out,H.out,J.out,C.out,HZ.out]),M2.out⟩
         have i7:(24:Int)<(d.attrs.length:Int):=by omega
         have J:=Lh_ h7;clear h7;go_wp2;go_ret;exact ⟨ret_int (by rw [checkD_eq];simp [E.out,D.out,G.out,H.out,J.out]),C0.out⟩
        have e6:(d.num != 0)=true:=by simp [h6]
        have Z0:(d.num == 0)=false:=beq_eq_false_iff_ne.2 h6;have H:=Lh_ (show numberB d=false by unfold numberB;rw [if_neg (by rw [Y.out];decide)];exact decide_eq_false h6);clear h6;go_wp2;go_ret;exact ⟨ret_int (by rw [checkD_eq];simp [E.out,D.out,G.out,H.out]),C0.out⟩
       | true =>
        have Y:=Lh_ ((node_kind d).symm.trans h9);have HZ:=Lh_ (linkD_yes h9);clear h9;by_cases h:d.num<1
        ·
         have N0:decide (d.num<1)=true:=decide_eq_true h;have H:=Lh_ (show numberB d=false by unfold numberB withinB;rw [if_pos Y.out];rw [Bool.eq_false_iff];intro hc;simp only [Bool.and_eq_true,decide_eq_true_eq] at hc;omega);clear h;go_wp2;go_ret;exact ⟨ret_int (by rw [checkD_eq];simp [E.out,D.out,G.out,H.out]),C0.out⟩
        have N0:decide (d.num<1)=false:=decide_eq_false h;have X0:=Lh_ h;by_cases h:1073741824<d.num
        ·
         have O0:decide (1073741824<d.num)=true:=decide_eq_true h;have H:=Lh_ (show numberB d=false by unfold numberB withinB;rw [if_pos Y.out];rw [Bool.eq_false_iff];intro hc;simp only [Bool.and_eq_true,decide_eq_true_eq] at hc;omega);clear h;go_wp2;go_ret;exact ⟨ret_int (by rw [checkD_eq];simp [E.out,D.out,G.out,H.out]),C0.out⟩
        have O0:decide (1073741824<d.num)=false:=decide_eq_false h;have Y0:=Lh_ h;have H:=Lh_ (show numberB d=true by have a1:=X0.out;have a2:=Y0.out;unfold numberB withinB;rw [if_pos Y.out];simp only [Bool.and_eq_true,decide_eq_true_eq];omega);by_cases h7:d.attrs.length≤24
        ·
         have i7:¬ (24:Int)<(d.attrs.length:Int):=by omega
         have J:=Lh_ h7;clear h7;go_wp2_with fail;have E0:=Lh_ (HX.out.keep (C0.out.mono HB.out));go_loop [5] (fun i=>∃ k:Nat,k≤d.attrs.length∧i=.int .i64 k∧Hid ((d.attrs.take k).all attrB=true)) (fun i=>d.attrs.length - (intOf i).toNat)
         case atStart=>exact ⟨0,Nat.zero_le _,rfl,rfl⟩
         obtain ⟨k,hk,rfl,HA⟩:=hrel;by_cases hlt:k<d.attrs.length
         ·
          obtain ⟨b3,o3,rfl,_,W,J0,K0⟩:=E0.out.attr hlt;have X:d.attrs[k]? = some d.attrs[k]:=List.getElem?_eq_getElem hlt;obtain ⟨x,hx⟩:∃ x,d.attrs[k]'hlt=x:=⟨_,rfl⟩;rw [hx] at J0 K0 W X;have I:=Lh_ X;have D0:=Lh_ W;clear hx X W;have i1:(k:Int)<(d.attrs.length:Int):=by omega
          go_wp2_with fail;refine (RValid_any x.name _ D0.out.1).mono ?_;rintro e w' ⟨rfl,rfl⟩;cases h1:validB x.name with
          | false =>
           have Z:=Lh_ h1;clear h1;have C:=Lh_ (show attrsB d.attrs=false by unfold attrsB;rw [all_stop (p:=attrB) I.out (by unfold attrB;simp [Z.out]),Bool.and_false]);go_wp2;go_ret;exact ⟨ret_int (by rw [checkD_eq];simp [E.out,D.out,G.out,H.out,J.out,C.out]),C0.out⟩
          | true =>
           have Z:=Lh_ h1;clear h1;go_wp2_with fail;refine (RText_any x.value _ D0.out.2).mono ?_;rintro e w' ⟨rfl,rfl⟩;cases h2:textB x.value with
           | false =>
            have H2:=Lh_ h2;clear h2;have C:=Lh_ (show attrsB d.attrs=false by unfold attrsB;rw [all_stop (p:=attrB) I.out (by unfold attrB;simp [Z.out,H2.out]),Bool.and_false]);go_wp2;go_ret;exact ⟨ret_int (by rw [checkD_eq];simp [E.out,D.out,G.out,H.out,J.out,C.out]),C0.out⟩
           | true =>
            have H2:=Lh_ h2;clear h2;cases h3:x.value.toList.isEmpty with
            | true =>
             have G0:x.value.toList=[]:=List.isEmpty_iff.1 h3;have H3:=Lh_ h3;have C:=Lh_ (show attrsB d.attrs=false by unfold attrsB;rw [all_stop (p:=attrB) I.out (by unfold attrB;simp [Z.out,H2.out,H3.out]),Bool.and_false]);go_wp2;go_ret;exact ⟨ret_int (by rw [checkD_eq];simp [E.out,D.out,G.out,H.out,J.out,C.out]),C0.out⟩
            | false =>
             have G0:¬ x.value.toList=[]:=fun h=>by rw [h] at h3;cases h3
             have H3:=Lh_ h3;go_wp2;go_round
             case rel=>exact ⟨k+1,by omega,by go_num,all_step HA.out I.out (by unfold attrB;simp [Z.out,H2.out,H3.out])⟩
             simp [intOf];omega
         have i1:¬ (k:Int)<(d.attrs.length:Int):=by omega
         have A0:=Lh_ (all_end HA.out (by omega));go_wp2_with fail;refine (RSorted_any A c d.attrs _ B E0.out).mono ?_;rintro e w8 ⟨rfl,A2⟩;clear K L M N O P Q R S T;have R1:=tb_ C0 A2;have O3:=kb_ Z2 A2;clear A2;obtain ⟨K,L,M,N,O,P,Q,R,S,T⟩:=s10_ O3.out.1;cases hs:sortedA d.attrs with
         | false =>
          have C:=Lh_ (show attrsB d.attrs=false by unfold attrsB;rw [hs];rfl);clear hs;go_wp2;go_ret;exact ⟨ret_int (by rw [checkD_eq];simp [E.out,D.out,G.out,H.out,J.out,C.out]),R1.out⟩
         | true =>
          have C:=Lh_ (show attrsB d.attrs=true by unfold attrsB;rw [hs,A0.out];rfl);clear hs;go_wp2_with fail;refine (RLink_any (nodeV d) _ (by have:=node_small (named_orig D.out);omega) (S0.out.next R1.out)).mono ?_;rintro e w9 ⟨rfl,B2⟩;clear K L M N O P Q R S T;have N2:=tb_ R1 B2;have Z3:=kb_ O3 B2;clear B2;obtain ⟨K,L,M,N,O,P,Q,R,S,T⟩:=s10_ Z3.out.1;cases h10:linkB (nodeV d) with
          | false =>
           have I0:=Lh_ (HZ.out.trans h10);clear h10;go_wp2;go_ret;exact ⟨ret_int (by rw [checkD_eq];simp [E.out,D.out,G.out,H.out,J.out,C.out,I0.out]),N2.out⟩
          | true =>
           have I0:=Lh_ (HZ.out.trans h10);clear h10;go_wp2;go_ret;exact ⟨ret_int (by rw [checkD_eq];simp [E.out,D.out,G.out,H.out,J.out,C.out,I0.out]),N2.out⟩
        have i7:(24:Int)<(d.attrs.length:Int):=by omega
        have J:=Lh_ h7;clear h7;go_wp2;go_ret;exact ⟨ret_int (by rw [checkD_eq];simp [E.out,D.out,G.out,H.out,J.out]),C0.out⟩
      have e5:(d.nm.toList == d.orig.toList)=false:=by rw [ba_beq];exact decide_eq_false h5
      have G:=Lh_ (show kindB d=false by unfold kindB;rw [if_neg h4,decide_eq_false h5,Bool.and_false]);clear h4 h5;go_wp2;go_ret;exact ⟨ret_int (by rw [checkD_eq];simp [E.out,D.out,G.out]),F.out⟩
    | false =>
     have G0:¬ d.drv.toList=[]:=fun h=>by rw [h] at h3;cases h3
     have L1:=Lh_ h3;go_wp2_with fail;refine (RValid_any d.drv _ HD.out.2.2.2.2.2.1).mono ?_;rintro e w' ⟨rfl,rfl⟩;cases h4:validB d.drv with
     | false =>
      have I2:=Lh_ h4;clear h4;have D:=Lh_ (show namedB d=false by unfold namedB;simp [P0.out,R0.out,V0.out,L1.out,I2.out]);go_wp2;go_ret;exact ⟨ret_int (by rw [checkD_eq];simp [E.out,D.out]),F.out⟩
     | true =>
      have I2:=Lh_ h4;clear h4;go_wp2_with fail;refine (RText_any d.ali _ HD.out.2.2.2.2.2.2.1).mono ?_;rintro e w' ⟨rfl,rfl⟩;cases h5:textB d.ali with
      | false =>
       have W0:=Lh_ h5;clear h5;have D:=Lh_ (show namedB d=false by unfold namedB;simp [P0.out,R0.out,V0.out,L1.out,I2.out,W0.out]);go_wp2;go_ret;exact ⟨ret_int (by rw [checkD_eq];simp [E.out,D.out]),F.out⟩
      | true =>
       have W0:=Lh_ h5;clear h5;have D:=Lh_ (show namedB d=true by unfold namedB;simp [P0.out,R0.out,V0.out,L1.out,I2.out,W0.out]);by_cases h:d.kind<1
       ·
        have S1:decide (d.kind<1)=true:=decide_eq_true h;have G:=Lh_ (show kindB d=false by unfold kindB;rw [if_neg (by omega)];rw [decide_eq_false (by omega)];rfl);clear h;go_wp2;go_ret;exact ⟨ret_int (by rw [checkD_eq];simp [E.out,D.out,G.out]),F.out⟩
       have S1:decide (d.kind<1)=false:=decide_eq_false h;have R2:=Lh_ h;by_cases h:4<d.kind
       ·
        have T1:decide (4<d.kind)=true:=decide_eq_true h;have G:=Lh_ (show kindB d=false by unfold kindB;rw [if_neg (by omega)];rw [decide_eq_false (by omega)];rfl);clear h;go_wp2;go_ret;exact ⟨ret_int (by rw [checkD_eq];simp [E.out,D.out,G.out]),F.out⟩
       have T1:decide (4<d.kind)=false:=decide_eq_false h;have S2:=Lh_ h;by_cases h4:d.kind=4
       ·
        have e4:(d.kind == 4)=true:=beq_iff_eq.2 h4;have U2:(d.kind != 4)=false:=by simp [h4]
        have H4:=Lh_ h4;clear h4;go_wp2_with fail;refine (RInterface_any d.nm _ HD.out.2.2.1).mono ?_;rintro e w' ⟨rfl,rfl⟩;cases h1:ifaceB d.nm with
        | false =>
         have G:=Lh_ (show kindB d=false by unfold kindB;rw [if_pos H4.out,h1];rfl);clear h1;go_wp2;go_ret;exact ⟨ret_int (by rw [checkD_eq];simp [E.out,D.out,G.out]),F.out⟩
        | true =>
         have Z:=Lh_ h1;clear h1;go_wp2_with fail;refine (RInterface_any d.orig _ HD.out.2.2.2.1).mono ?_;rintro e w' ⟨rfl,rfl⟩;cases h2:ifaceB d.orig with
         | false =>
          have G:=Lh_ (show kindB d=false by unfold kindB;rw [if_pos H4.out,Z.out,h2];rfl);clear h2;go_wp2;go_ret;exact ⟨ret_int (by rw [checkD_eq];simp [E.out,D.out,G.out]),F.out⟩
         | true =>
          have G:=Lh_ (show kindB d=true by unfold kindB;rw [if_pos H4.out,Z.out,h2];rfl);clear h2;go_wp2_with fail;refine (RNode_any d A c _ (by have:=named_orig D.out;omega) (S0.out.next F.out)).mono ?_;rintro e w10 ⟨rfl,A1⟩;clear K L M N O P Q R S T;have U:=tb_ F A1;have C2:=kb_ M0 A1;clear A1;obtain ⟨K,L,M,N,O,P,Q,R,S,T⟩:=s10_ C2.out.1;cases h9:(nodeD d).isSome with
          | false =>
           have Y:=Lh_ ((node_kind d).symm.trans h9);have HZ:=Lh_ (linkD_no h9);clear h9;by_cases h6:d.num=0
           ·
            have e6:(d.num != 0)=false:=by simp [h6]
            have Z0:(d.num == 0)=true:=beq_iff_eq.2 h6;have H:=Lh_ (show numberB d=true by unfold numberB;rw [if_neg (by rw [Y.out];decide)];exact decide_eq_true h6);clear h6;by_cases h7:d.attrs.length≤24
            ·
             have i7:¬ (24:Int)<(d.attrs.length:Int):=by omega
             have J:=Lh_ h7;clear h7;go_wp2_with fail;have E0:=Lh_ (HX.out.keep (U.out.mono HB.out));go_loop [5] (fun i=>∃ k:Nat,k≤d.attrs.length∧i=.int .i64 k∧Hid ((d.attrs.take k).all attrB=true)) (fun i=>d.attrs.length - (intOf i).toNat)
             case atStart=>exact ⟨0,Nat.zero_le _,rfl,rfl⟩
             obtain ⟨k,hk,rfl,HA⟩:=hrel;by_cases hlt:k<d.attrs.length
             ·
              obtain ⟨b3,o3,rfl,_,W,J0,K0⟩:=E0.out.attr hlt;have X:d.attrs[k]? = some d.attrs[k]:=List.getElem?_eq_getElem hlt;obtain ⟨x,hx⟩:∃ x,d.attrs[k]'hlt=x:=⟨_,rfl⟩;rw [hx] at J0 K0 W X;have I:=Lh_ X;have D0:=Lh_ W;clear hx X W;have i1:(k:Int)<(d.attrs.length:Int):=by omega
              go_wp2_with fail;refine (RValid_any x.name _ D0.out.1).mono ?_;rintro e w' ⟨rfl,rfl⟩;cases h1:validB x.name with
              | false =>
               have Z:=Lh_ h1;clear h1;have C:=Lh_ (show attrsB d.attrs=false by unfold attrsB;rw [all_stop (p:=attrB) I.out (by unfold attrB;simp [Z.out]),Bool.and_false]);go_wp2;go_ret;exact ⟨ret_int (by rw [checkD_eq];simp [E.out,D.out,G.out,H.out,J.out,C.out]),U.out⟩
              | true =>
               have Z:=Lh_ h1;clear h1;go_wp2_with fail;refine (RText_any x.value _ D0.out.2).mono ?_;rintro e w' ⟨rfl,rfl⟩;cases h2:textB x.value with
               | false =>
                have H2:=Lh_ h2;clear h2;have C:=Lh_ (show attrsB d.attrs=false by unfold attrsB;rw [all_stop (p:=attrB) I.out (by unfold attrB;simp [Z.out,H2.out]),Bool.and_false]);go_wp2;go_ret;exact ⟨ret_int (by rw [checkD_eq];simp [E.out,D.out,G.out,H.out,J.out,C.out]),U.out⟩
               | true =>
                have H2:=Lh_ h2;clear h2;cases h3:x.value.toList.isEmpty with
                | true =>
                 have G0:x.value.toList=[]:=List.isEmpty_iff.1 h3;have H3:=Lh_ h3;have C:=Lh_ (show attrsB d.attrs=false by unfold attrsB;rw [all_stop (p:=attrB) I.out (by unfold attrB;simp [Z.out,H2.out,H3.out]),Bool.and_false]);go_wp2;go_ret;exact ⟨ret_int (by rw [checkD_eq];simp [E.out,D.out,G.out,H.out,J.out,C.out]),U.out⟩
                | false =>
                 have G0:¬ x.value.toList=[]:=fun h=>by rw [h] at h3;cases h3
                 have H3:=Lh_ h3;go_wp2;go_round
                 case rel=>exact ⟨k+1,by omega,by go_num,all_step HA.out I.out (by unfold attrB;simp [Z.out,H2.out,H3.out])⟩
                 simp [intOf];omega
             have i1:¬ (k:Int)<(d.attrs.length:Int):=by omega
             have A0:=Lh_ (all_end HA.out (by omega));go_wp2_with fail;refine (RSorted_any A c d.attrs _ B E0.out).mono ?_;rintro e w11 ⟨rfl,B1⟩;clear K L M N O P Q R S T;have M1:=tb_ U B1;have J3:=kb_ C2 B1;clear B1;obtain ⟨K,L,M,N,O,P,Q,R,S,T⟩:=s10_ J3.out.1;cases hs:sortedA d.attrs with
             | false =>
              have C:=Lh_ (show attrsB d.attrs=false by unfold attrsB;rw [hs];rfl);clear hs;go_wp2;go_ret;exact ⟨ret_int (by rw [checkD_eq];simp [E.out,D.out,G.out,H.out,J.out,C.out]),M1.out⟩
             | true =>
              have C:=Lh_ (show attrsB d.attrs=true by unfold attrsB;rw [hs,A0.out];rfl);clear hs;go_wp2;go_ret;exact ⟨ret_int (by rw [checkD_eq];simp [E.out,D.out,G.out,H.out,J.out,C.out,HZ.out]),M1.out⟩
            have i7:(24:Int)<(d.attrs.length:Int):=by omega
            have J:=Lh_ h7;clear h7;go_wp2;go_ret;exact ⟨ret_int (by rw [checkD_eq];simp [E.out,D.out,G.out,H.out,J.out]),U.out⟩
           have e6:(d.num != 0)=true:=by simp [h6]
           have Z0:(d.num == 0)=false:=beq_eq_false_iff_ne.2 h6;have H:=Lh_ (show numberB d=false by unfold numberB;rw [if_neg (by rw [Y.out];decide)];exact decide_eq_false h6);clear h6;go_wp2;go_ret;exact ⟨ret_int (by rw [checkD_eq];simp [E.out,D.out,G.out,H.out]),U.out⟩
          | true =>
           have Y:=Lh_ ((node_kind d).symm.trans h9);have HZ:=Lh_ (linkD_yes h9);clear h9;by_cases h:d.num<1
           ·
            have N0:decide (d.num<1)=true:=decide_eq_true h;have H:=Lh_ (show numberB d=false by unfold numberB withinB;rw [if_pos Y.out];rw [Bool.eq_false_iff];intro hc;simp only [Bool.and_eq_true,decide_eq_true_eq] at hc;omega);clear h;go_wp2;go_ret;exact ⟨ret_int (by rw [checkD_eq];simp [E.out,D.out,G.out,H.out]),U.out⟩
           have N0:decide (d.num<1)=false:=decide_eq_false h;have X0:=Lh_ h;by_cases h:1073741824<d.num
           ·
            have O0:decide (1073741824<d.num)=true:=decide_eq_true h;have H:=Lh_ (show numberB d=false by unfold numberB withinB;rw [if_pos Y.out];rw [Bool.eq_false_iff];intro hc;simp only [Bool.and_eq_true,decide_eq_true_eq] at hc;omega);clear h;go_wp2;go_ret;exact ⟨ret_int (by rw [checkD_eq];simp [E.out,D.out,G.out,H.out]),U.out⟩
           have O0:decide (1073741824<d.num)=false:=decide_eq_false h;have Y0:=Lh_ h;have H:=Lh_ (show numberB d=true by have a1:=X0.out;have a2:=Y0.out;unfold numberB withinB;rw [if_pos Y.out];simp only [Bool.and_eq_true,decide_eq_true_eq];omega);by_cases h7:d.attrs.length≤24
           ·
            have i7:¬ (24:Int)<(d.attrs.length:Int):=by omega
            have J:=Lh_ h7;clear h7;go_wp2_with fail;have E0:=Lh_ (HX.out.keep (U.out.mono HB.out));go_loop [5] (fun i=>∃ k:Nat,k≤d.attrs.length∧i=.int .i64 k∧Hid ((d.attrs.take k).all attrB=true)) (fun i=>d.attrs.length - (intOf i).toNat)
            case atStart=>exact ⟨0,Nat.zero_le _,rfl,rfl⟩
            obtain ⟨k,hk,rfl,HA⟩:=hrel;by_cases hlt:k<d.attrs.length
            ·
             obtain ⟨b3,o3,rfl,_,W,J0,K0⟩:=E0.out.attr hlt;have X:d.attrs[k]? = some d.attrs[k]:=List.getElem?_eq_getElem hlt;obtain ⟨x,hx⟩:∃ x,d.attrs[k]'hlt=x:=⟨_,rfl⟩;rw [hx] at J0 K0 W X;have I:=Lh_ X;have D0:=Lh_ W;clear hx X W;have i1:(k:Int)<(d.attrs.length:Int):=by omega
             go_wp2_with fail;refine (RValid_any x.name _ D0.out.1).mono ?_;rintro e w' ⟨rfl,rfl⟩;cases h1:validB x.name with
             | false =>
              have Z:=Lh_ h1;clear h1;have C:=Lh_ (show attrsB d.attrs=false by unfold attrsB;rw [all_stop (p:=attrB) I.out (by unfold attrB;simp [Z.out]),Bool.and_false]);go_wp2;go_ret;exact ⟨ret_int (by rw [checkD_eq];simp [E.out,D.out,G.out,H.out,J.out,C.out]),U.out⟩
             | true =>
              have Z:=Lh_ h1;clear h1;go_wp2_with fail;refine (RText_any x.value _ D0.out.2).mono ?_;rintro e w' ⟨rfl,rfl⟩;cases h2:textB x.value with
              | false =>
               have H2:=Lh_ h2;clear h2;have C:=Lh_ (show attrsB d.attrs=false by unfold attrsB;rw [all_stop (p:=attrB) I.out (by unfold attrB;simp [Z.out,H2.out]),Bool.and_false]);go_wp2;go_ret;exact ⟨ret_int (by rw [checkD_eq];simp [E.out,D.out,G.out,H.out,J.out,C.out]),U.out⟩
              | true =>
               have H2:=Lh_ h2;clear h2;cases h3:x.value.toList.isEmpty with
               | true =>
                have G0:x.value.toList=[]:=List.isEmpty_iff.1 h3;have H3:=Lh_ h3;have C:=Lh_ (show attrsB d.attrs=false by unfold attrsB;rw [all_stop (p:=attrB) I.out (by unfold attrB;simp [Z.out,H2.out,H3.out]),Bool.and_false]);go_wp2;go_ret;exact ⟨ret_int (by rw [checkD_eq];simp [E.out,D.out,G.out,H.out,J.out,C.out]),U.out⟩
               | false =>
                have G0:¬ x.value.toList=[]:=fun h=>by rw [h] at h3;cases h3
                have H3:=Lh_ h3;go_wp2;go_round
                case rel=>exact ⟨k+1,by omega,by go_num,all_step HA.out I.out (by unfold attrB;simp [Z.out,H2.out,H3.out])⟩
                simp [intOf];omega
            have i1:¬ (k:Int)<(d.attrs.length:Int):=by omega
            have A0:=Lh_ (all_end HA.out (by omega));go_wp2_with fail;refine (RSorted_any A c d.attrs _ B E0.out).mono ?_;rintro e w12 ⟨rfl,C1⟩;clear K L M N O P Q R S T;have T0:=tb_ U C1;have P2:=kb_ C2 C1;clear C1;obtain ⟨K,L,M,N,O,P,Q,R,S,T⟩:=s10_ P2.out.1;cases hs:sortedA d.attrs with
            | false =>
             have C:=Lh_ (show attrsB d.attrs=false by unfold attrsB;rw [hs];rfl);clear hs;go_wp2;go_ret;exact ⟨ret_int (by rw [checkD_eq];simp [E.out,D.out,G.out,H.out,J.out,C.out]),T0.out⟩
            | true =>
             have C:=Lh_ (show attrsB d.attrs=true by unfold attrsB;rw [hs,A0.out];rfl);clear hs;go_wp2_with fail;refine (RLink_any (nodeV d) _ (by have:=node_small (named_orig D.out);omega) (S0.out.next T0.out)).mono ?_;rintro e w13 ⟨rfl,D1⟩;clear K L M N O P Q R S T;have N1:=tb_ T0 D1;have K3:=kb_ P2 D1;clear D1;obtain ⟨K,L,M,N,O,P,Q,R,S,T⟩:=s10_ K3.out.1;cases h10:linkB (nodeV d) with
             | false =>
              have I0:=Lh_ (HZ.out.trans h10);clear h10;go_wp2;go_ret;exact ⟨ret_int (by rw [checkD_eq];simp [E.out,D.out,G.out,H.out,J.out,C.out,I0.out]),N1.out⟩
             | true =>
              have I0:=Lh_ (HZ.out.trans h10);clear h10;go_wp2;go_ret;exact ⟨ret_int (by rw [checkD_eq];simp [E.out,D.out,G.out,H.out,J.out,C.out,I0.out]),N1.out⟩
           have i7:(24:Int)<(d.attrs.length:Int):=by omega
           have J:=Lh_ h7;clear h7;go_wp2;go_ret;exact ⟨ret_int (by rw [checkD_eq];simp [E.out,D.out,G.out,H.out,J.out]),U.out⟩
       have e4:(d.kind == 4)=false:=beq_eq_false_iff_ne.2 h4;have U2:(d.kind != 4)=true:=by simp [h4]
       have H4:=Lh_ h4;by_cases h5:d.nm=d.orig
       ·
        have e5:(d.nm.toList == d.orig.toList)=true:=by rw [ba_beq];exact decide_eq_true h5
        have G:=Lh_ (show kindB d=true by have a1:=R2.out;have a2:=S2.out;unfold kindB;rw [if_neg h4,decide_eq_true h5,decide_eq_true (by omega)];rfl);clear h4 h5;go_wp2_with fail;refine (RNode_any d A c _ (by have:=named_orig D.out;omega) (S0.out.next F.out)).mono ?_;rintro e w14 ⟨rfl,E1⟩;clear K L M N O P Q R S T;have V:=tb_ F E1;have D2:=kb_ M0 E1;clear E1;obtain ⟨K,L,M,N,O,P,Q,R,S,T⟩:=s10_ D2.out.1;cases h9:(nodeD d).isSome with
        | false =>
         have Y:=Lh_ ((node_kind d).symm.trans h9);have HZ:=Lh_ (linkD_no h9);clear h9;by_cases h6:d.num=0
         ·
          have e6:(d.num != 0)=false:=by simp [h6]
          have Z0:(d.num == 0)=true:=beq_iff_eq.2 h6;have H:=Lh_ (show numberB d=true by unfold numberB;rw [if_neg (by rw [Y.out];decide)];exact decide_eq_true h6);clear h6;by_cases h7:d.attrs.length≤24
          ·
           have i7:¬ (24:Int)<(d.attrs.length:Int):=by omega
           have J:=Lh_ h7;clear h7;go_wp2_with fail;have E0:=Lh_ (HX.out.keep (V.out.mono HB.out));go_loop [5] (fun i=>∃ k:Nat,k≤d.attrs.length∧i=.int .i64 k∧Hid ((d.attrs.take k).all attrB=true)) (fun i=>d.attrs.length - (intOf i).toNat)
           case atStart=>exact ⟨0,Nat.zero_le _,rfl,rfl⟩
           obtain ⟨k,hk,rfl,HA⟩:=hrel;by_cases hlt:k<d.attrs.length
           ·
            obtain ⟨b3,o3,rfl,_,W,J0,K0⟩:=E0.out.attr hlt;have X:d.attrs[k]? = some d.attrs[k]:=List.getElem?_eq_getElem hlt;obtain ⟨x,hx⟩:∃ x,d.attrs[k]'hlt=x:=⟨_,rfl⟩;rw [hx] at J0 K0 W X;have I:=Lh_ X;have D0:=Lh_ W;clear hx X W;have i1:(k:Int)<(d.attrs.length:Int):=by omega
            go_wp2_with fail;refine (RValid_any x.name _ D0.out.1).mono ?_;rintro e w' ⟨rfl,rfl⟩;cases h1:validB x.name with
            | false =>
             have Z:=Lh_ h1;clear h1;have C:=Lh_ (show attrsB d.attrs=false by unfold attrsB;rw [all_stop (p:=attrB) I.out (by unfold attrB;simp [Z.out]),Bool.and_false]);go_wp2;go_ret;exact ⟨ret_int (by rw [checkD_eq];simp [E.out,D.out,G.out,H.out,J.out,C.out]),V.out⟩
            | true =>
             have Z:=Lh_ h1;clear h1;go_wp2_with fail;refine (RText_any x.value _ D0.out.2).mono ?_;rintro e w' ⟨rfl,rfl⟩;cases h2:textB x.value with
             | false =>
              have H2:=Lh_ h2;clear h2;have C:=Lh_ (show attrsB d.attrs=false by unfold attrsB;rw [all_stop (p:=attrB) I.out (by unfold attrB;simp [Z.out,H2.out]),Bool.and_false]);go_wp2;go_ret;exact ⟨ret_int (by rw [checkD_eq];simp [E.out,D.out,G.out,H.out,J.out,C.out]),V.out⟩
             | true =>
              have H2:=Lh_ h2;clear h2;cases h3:x.value.toList.isEmpty with
              | true =>
               have G0:x.value.toList=[]:=List.isEmpty_iff.1 h3;have H3:=Lh_ h3;have C:=Lh_ (show attrsB d.attrs=false by unfold attrsB;rw [all_stop (p:=attrB) I.out (by unfold attrB;simp [Z.out,H2.out,H3.out]),Bool.and_false]);go_wp2;go_ret;exact ⟨ret_int (by rw [checkD_eq];simp [E.out,D.out,G.out,H.out,J.out,C.out]),V.out⟩
              | false =>
               have G0:¬ x.value.toList=[]:=fun h=>by rw [h] at h3;cases h3
               have H3:=Lh_ h3;go_wp2;go_round
               case rel=>exact ⟨k+1,by omega,by go_num,all_step HA.out I.out (by unfold attrB;simp [Z.out,H2.out,H3.out])⟩
               simp [intOf];omega
           have i1:¬ (k:Int)<(d.attrs.length:Int):=by omega
           have A0:=Lh_ (all_end HA.out (by omega));go_wp2_with fail;refine (RSorted_any A c d.attrs _ B E0.out).mono ?_;rintro e w15 ⟨rfl,F1⟩;clear K L M N O P Q R S T;have O1:=tb_ V F1;have L3:=kb_ D2 F1;clear F1;obtain ⟨K,L,M,N,O,P,Q,R,S,T⟩:=s10_ L3.out.1;cases hs:sortedA d.attrs with
           | false =>
            have C:=Lh_ (show attrsB d.attrs=false by unfold attrsB;rw [hs];rfl);clear hs;go_wp2;go_ret;exact ⟨ret_int (by rw [checkD_eq];simp [E.out,D.out,G.out,H.out,J.out,C.out]),O1.out⟩
           | true =>
            have C:=Lh_ (show attrsB d.attrs=true by unfold attrsB;rw [hs,A0.out];rfl);clear hs;go_wp2;go_ret;exact ⟨ret_int (by rw [checkD_eq];simp [E.out,D.out,G.out,H.out,J.out,C.out,HZ.out]),O1.out⟩
          have i7:(24:Int)<(d.attrs.length:Int):=by omega
          have J:=Lh_ h7;clear h7;go_wp2;go_ret;exact ⟨ret_int (by rw [checkD_eq];simp [E.out,D.out,G.out,H.out,J.out]),V.out⟩
         have e6:(d.num != 0)=true:=by simp [h6]
         have Z0:(d.num == 0)=false:=beq_eq_false_iff_ne.2 h6;have H:=Lh_ (show numberB d=false by unfold numberB;rw [if_neg (by rw [Y.out];decide)];exact decide_eq_false h6);clear h6;go_wp2;go_ret;exact ⟨ret_int (by rw [checkD_eq];simp [E.out,D.out,G.out,H.out]),V.out⟩
        | true =>
         have Y:=Lh_ ((node_kind d).symm.trans h9);have HZ:=Lh_ (linkD_yes h9);clear h9;by_cases h:d.num<1
         ·
          have N0:decide (d.num<1)=true:=decide_eq_true h;have H:=Lh_ (show numberB d=false by unfold numberB withinB;rw [if_pos Y.out];rw [Bool.eq_false_iff];intro hc;simp only [Bool.and_eq_true,decide_eq_true_eq] at hc;omega);clear h;go_wp2;go_ret;exact ⟨ret_int (by rw [checkD_eq];simp [E.out,D.out,G.out,H.out]),V.out⟩
         have N0:decide (d.num<1)=false:=decide_eq_false h;have X0:=Lh_ h;by_cases h:1073741824<d.num
         ·
          have O0:decide (1073741824<d.num)=true:=decide_eq_true h;have H:=Lh_ (show numberB d=false by unfold numberB withinB;rw [if_pos Y.out];rw [Bool.eq_false_iff];intro hc;simp only [Bool.and_eq_true,decide_eq_true_eq] at hc;omega);clear h;go_wp2;go_ret;exact ⟨ret_int (by rw [checkD_eq];simp [E.out,D.out,G.out,H.out]),V.out⟩
         have O0:decide (1073741824<d.num)=false:=decide_eq_false h;have Y0:=Lh_ h;have H:=Lh_ (show numberB d=true by have a1:=X0.out;have a2:=Y0.out;unfold numberB withinB;rw [if_pos Y.out];simp only [Bool.and_eq_true,decide_eq_true_eq];omega);by_cases h7:d.attrs.length≤24
         ·
          have i7:¬ (24:Int)<(d.attrs.length:Int):=by omega
          have J:=Lh_ h7;clear h7;go_wp2_with fail;have E0:=Lh_ (HX.out.keep (V.out.mono HB.out));go_loop [5] (fun i=>∃ k:Nat,k≤d.attrs.length∧i=.int .i64 k∧Hid ((d.attrs.take k).all attrB=true)) (fun i=>d.attrs.length - (intOf i).toNat)
          case atStart=>exact ⟨0,Nat.zero_le _,rfl,rfl⟩
          obtain ⟨k,hk,rfl,HA⟩:=hrel;by_cases hlt:k<d.attrs.length
          ·
           obtain ⟨b3,o3,rfl,_,W,J0,K0⟩:=E0.out.attr hlt;have X:d.attrs[k]? = some d.attrs[k]:=List.getElem?_eq_getElem hlt;obtain ⟨x,hx⟩:∃ x,d.attrs[k]'hlt=x:=⟨_,rfl⟩;rw [hx] at J0 K0 W X;have I:=Lh_ X;have D0:=Lh_ W;clear hx X W;have i1:(k:Int)<(d.attrs.length:Int):=by omega
           go_wp2_with fail;refine (RValid_any x.name _ D0.out.1).mono ?_;rintro e w' ⟨rfl,rfl⟩;cases h1:validB x.name with
           | false =>
            have Z:=Lh_ h1;clear h1;have C:=Lh_ (show attrsB d.attrs=false by unfold attrsB;rw [all_stop (p:=attrB) I.out (by unfold attrB;simp [Z.out]),Bool.and_false]);go_wp2;go_ret;exact ⟨ret_int (by rw [checkD_eq];simp [E.out,D.out,G.out,H.out,J.out,C.out]),V.out⟩
           | true =>
            have Z:=Lh_ h1;clear h1;go_wp2_with fail;refine (RText_any x.value _ D0.out.2).mono ?_;rintro e w' ⟨rfl,rfl⟩;cases h2:textB x.value with
            | false =>
             have H2:=Lh_ h2;clear h2;have C:=Lh_ (show attrsB d.attrs=false by unfold attrsB;rw [all_stop (p:=attrB) I.out (by unfold attrB;simp [Z.out,H2.out]),Bool.and_false]);go_wp2;go_ret;exact ⟨ret_int (by rw [checkD_eq];simp [E.out,D.out,G.out,H.out,J.out,C.out]),V.out⟩
            | true =>
             have H2:=Lh_ h2;clear h2;cases h3:x.value.toList.isEmpty with
             | true =>
              have G0:x.value.toList=[]:=List.isEmpty_iff.1 h3;have H3:=Lh_ h3;have C:=Lh_ (show attrsB d.attrs=false by unfold attrsB;rw [all_stop (p:=attrB) I.out (by unfold attrB;simp [Z.out,H2.out,H3.out]),Bool.and_false]);go_wp2;go_ret;exact ⟨ret_int (by rw [checkD_eq];simp [E.out,D.out,G.out,H.out,J.out,C.out]),V.out⟩
             | false =>
              have G0:¬ x.value.toList=[]:=fun h=>by rw [h] at h3;cases h3
              have H3:=Lh_ h3;go_wp2;go_round
              case rel=>exact ⟨k+1,by omega,by go_num,all_step HA.out I.out (by unfold attrB;simp [Z.out,H2.out,H3.out])⟩
              simp [intOf];omega
          have i1:¬ (k:Int)<(d.attrs.length:Int):=by omega
          have A0:=Lh_ (all_end HA.out (by omega));go_wp2_with fail;refine (RSorted_any A c d.attrs _ B E0.out).mono ?_;rintro e w16 ⟨rfl,G1⟩;clear K L M N O P Q R S T;have U0:=tb_ V G1;have Q2:=kb_ D2 G1;clear G1;obtain ⟨K,L,M,N,O,P,Q,R,S,T⟩:=s10_ Q2.out.1;cases hs:sortedA d.attrs with
          | false =>
           have C:=Lh_ (show attrsB d.attrs=false by unfold attrsB;rw [hs];rfl);clear hs;go_wp2;go_ret;exact ⟨ret_int (by rw [checkD_eq];simp [E.out,D.out,G.out,H.out,J.out,C.out]),U0.out⟩
          | true =>
           have C:=Lh_ (show attrsB d.attrs=true by unfold attrsB;rw [hs,A0.out];rfl);clear hs;go_wp2_with fail;refine (RLink_any (nodeV d) _ (by have:=node_small (named_orig D.out);omega) (S0.out.next U0.out)).mono ?_;rintro e w17 ⟨rfl,I1⟩;clear K L M N O P Q R S T;have P1:=tb_ U0 I1;have M3:=kb_ Q2 I1;clear I1;obtain ⟨K,L,M,N,O,P,Q,R,S,T⟩:=s10_ M3.out.1;cases h10:linkB (nodeV d) with
           | false =>
            have I0:=Lh_ (HZ.out.trans h10);clear h10;go_wp2;go_ret;exact ⟨ret_int (by rw [checkD_eq];simp [E.out,D.out,G.out,H.out,J.out,C.out,I0.out]),P1.out⟩
           | true =>
            have I0:=Lh_ (HZ.out.trans h10);clear h10;go_wp2;go_ret;exact ⟨ret_int (by rw [checkD_eq];simp [E.out,D.out,G.out,H.out,J.out,C.out,I0.out]),P1.out⟩
         have i7:(24:Int)<(d.attrs.length:Int):=by omega
         have J:=Lh_ h7;clear h7;go_wp2;go_ret;exact ⟨ret_int (by rw [checkD_eq];simp [E.out,D.out,G.out,H.out,J.out]),V.out⟩
       have e5:(d.nm.toList == d.orig.toList)=false:=by rw [ba_beq];exact decide_eq_false h5
       have G:=Lh_ (show kindB d=false by unfold kindB;rw [if_neg h4,decide_eq_false h5,Bool.and_false]);clear h4 h5;go_wp2;go_ret;exact ⟨ret_int (by rw [checkD_eq];simp [E.out,D.out,G.out]),F.out⟩
end Go.Cold
