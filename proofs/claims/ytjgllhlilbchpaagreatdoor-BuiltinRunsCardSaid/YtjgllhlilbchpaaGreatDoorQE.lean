/-
  The walks of device.Check and of the reference's Check of devices.
-/
import Derived.Test.YtjgllhlilbchpaaGreatDoorQTK
import Derived.Test.YtjgllhlilbchpaaGreatDoorQD
set_option linter.unusedSimpArgs false
set_option linter.unusedVariables false
namespace Go.Cold
open Go Go.RowKit
theorem valid_size {s:ByteArray} (h:validB s=true):s.size≤32:=by
 unfold validB at h;simp only [Bool.and_eq_true,decide_eq_true_eq] at h;have:=h.2.1;omega
theorem named_orig {d:Dev} (h:namedB d=true):d.orig.size≤32:=by
 unfold namedB at h;simp only [Bool.and_eq_true] at h;exact valid_size h.2.1
theorem node_small {d:Dev} (h:d.orig.size≤32):(nodeV d).size≤32:=by
 unfold nodeV nodeD;split
 ·
  show (nodeS d.orig).size≤32
  rw [nodeS_size];exact h
 ·
  show (0:Nat)≤32
  omega
theorem linkD_yes {d:Dev} (h:(nodeD d).isSome=true):linkD d=linkB (nodeV d):=by
 unfold linkD nodeV;cases hn:nodeD d with
 | none=>rw [hn] at h;cases h
 | some s=>rfl
theorem linkD_no {d:Dev} (h:(nodeD d).isSome=false):linkD d=true:=by
 unfold linkD;cases hn:nodeD d with
 | none=>rfl
 | some s=>rw [hn] at h;cases h
theorem node_kind (d:Dev):(nodeD d).isSome=kindN d.kind:=by unfold nodeD kindN;by_cases h:d.kind=2∨d.kind=3 <;> simp [h]
end Go.Cold
namespace Go.Proofs.YtjgllhlilbchpaaGreatDoor
open Go.RowKit Go.Cold
set_option maxRecDepth 100000 in
set_option maxHeartbeats 2000000 in
theorem Check_any (d:Dev) (A:Option Addr) (c:Nat) (w:World) (B:Nat) (hB:B≤w.heap.size) (hd:devOk d) (hx:Sl w B A c d.attrs) (hok:Ok w):Calls Tryz.prog 33 #[.agg #[.int .i64 d.idx,.int .i64 d.par,.string d.nm,.string d.orig,.string d.sub,.string d.drv,.string d.ali,.int .i64 d.kind,.int .i64 d.num,.slice A d.attrs.length c]] w fun e w'=>e=.returned (.int .i64 (checkD d))∧Below w.heap.size w w':=by
 have HOK:=Lh_ hok;have HX:=Lh_ hx;have HB:=Lh_ hB;have HD:=Lh_ hd;clear hok hx hB hd;have hl:=HX.out.1;have hl2:=HX.out.2.1;unfold maxLen at hl2;go_enter Tryz.func33,Tryz.ntmps33;go_upto_region 1 with fail
 obtain ⟨w1,hw1,hbw1,HGw1,HXpw1⟩:=bx_ w [.int .i64 d.idx,.int .i64 d.par,.string d.nm,.string d.orig,.string d.sub,.string d.drv,.string d.ali,.int .i64 d.kind,.int .i64 d.num,.slice A d.attrs.length c] 32;try simp only [hw1]
 have HBw1:=Lh_ hbw1;clear hw1 hbw1;try rw [← HGw1.out]
 obtain ⟨cp0,cp1,cp2,cp3,cp4,cp5,cp6,cp7,cp8,cp9⟩:=s10_ HXpw1.out.1;go_wp2_with fail;refine (within_any d.idx 1 1073741824 _).mono ?_;rintro e w' ⟨rfl,rfl⟩;cases h1:withinB d.idx 1 1073741824 with
 | false =>
  have HR:=Lh_ (show rangeB d=false by unfold rangeB;rw [h1];rfl);clear h1;go_wp2;go_ret;exact ⟨ret_int (by rw [checkD_eq];simp [HR.out]),HBw1.out⟩
 | true =>
  have H1:=Lh_ h1;clear h1;go_wp2_with fail;refine (within_any d.par 0 1073741824 _).mono ?_;rintro e w' ⟨rfl,rfl⟩;cases h2:withinB d.par 0 1073741824 with
  | false =>
   have HR:=Lh_ (show rangeB d=false by unfold rangeB;rw [H1.out,h2];rfl);clear h2;go_wp2;go_ret;exact ⟨ret_int (by rw [checkD_eq];simp [HR.out]),HBw1.out⟩
  | true =>
   have H2:=Lh_ h2;clear h2;by_cases h3:d.par=d.idx
   ·
    have e3:(d.par == d.idx)=true:=beq_iff_eq.2 h3;have HR:=Lh_ (show rangeB d=false by unfold rangeB;simp [h3]);clear h3;go_wp2;go_ret;exact ⟨ret_int (by rw [checkD_eq];simp [HR.out]),HBw1.out⟩
   ·
    have e3:(d.par == d.idx)=false:=beq_eq_false_iff_ne.2 h3;have HR:=Lh_ (show rangeB d=true by unfold rangeB;rw [H1.out,H2.out];simp [h3]);clear h3;go_wp2_with fail;refine (named_any d A c _ HD.out).mono ?_;rintro e w2 ⟨rfl,hbw2⟩;clear cp0 cp1 cp2 cp3 cp4 cp5 cp6 cp7 cp8 cp9;have HBw2:=tb_ HBw1 hbw2;have pw2:=kb_ HXpw1 hbw2;clear hbw2;obtain ⟨cp0,cp1,cp2,cp3,cp4,cp5,cp6,cp7,cp8,cp9⟩:=s10_ pw2.out.1;cases h4:namedB d with
    | false =>
     have HN:=Lh_ h4;clear h4;go_wp2;go_ret;exact ⟨ret_int (by rw [checkD_eq];simp [HR.out,HN.out]),HBw2.out⟩
    | true =>
     have HN:=Lh_ h4;clear h4;go_wp2_with fail;refine (kind_any d A c _ HD.out).mono ?_;rintro e w3 ⟨rfl,hbw3⟩;clear cp0 cp1 cp2 cp3 cp4 cp5 cp6 cp7 cp8 cp9;have HBw3:=tb_ HBw2 hbw3;have pw3:=kb_ pw2 hbw3;clear hbw3;obtain ⟨cp0,cp1,cp2,cp3,cp4,cp5,cp6,cp7,cp8,cp9⟩:=s10_ pw3.out.1;cases h5:kindB d with
     | false =>
      have HK:=Lh_ h5;clear h5;go_wp2;go_ret;exact ⟨ret_int (by rw [checkD_eq];simp [HR.out,HN.out,HK.out]),HBw3.out⟩
     | true =>
      have HK:=Lh_ h5;clear h5;go_wp2_with fail;refine (number_any d A c _).mono ?_;rintro e w4 ⟨rfl,hbw4⟩;clear cp0 cp1 cp2 cp3 cp4 cp5 cp6 cp7 cp8 cp9;have HBw4:=tb_ HBw3 hbw4;have pw4:=kb_ pw3 hbw4;clear hbw4;obtain ⟨cp0,cp1,cp2,cp3,cp4,cp5,cp6,cp7,cp8,cp9⟩:=s10_ pw4.out.1;cases h6:numberB d with
      | false =>
       have HU:=Lh_ h6;clear h6;go_wp2;go_ret;exact ⟨ret_int (by rw [checkD_eq];simp [HR.out,HN.out,HK.out,HU.out]),HBw4.out⟩
      | true =>
       have HU:=Lh_ h6;clear h6;by_cases h7:d.attrs.length≤24
       ·
        have i7:¬ (24:Int)<(d.attrs.length:Int):=by omega
        have HL:=Lh_ h7;clear h7;go_wp2_with fail;refine (attributes_any A c d.attrs _ B (Nat.le_trans HB.out HBw4.out.size) (HX.out.keep (HBw4.out.mono HB.out))).mono ?_;rintro e w5 ⟨rfl,hbw5⟩;clear cp0 cp1 cp2 cp3 cp4 cp5 cp6 cp7 cp8 cp9;have HBw5:=tb_ HBw4 hbw5;have pw5:=kb_ pw4 hbw5;clear hbw5;obtain ⟨cp0,cp1,cp2,cp3,cp4,cp5,cp6,cp7,cp8,cp9⟩:=s10_ pw5.out.1;cases h8:attrsB d.attrs with
        | false =>
         have HA:=Lh_ h8;clear h8;go_wp2;go_ret;exact ⟨ret_int (by rw [checkD_eq];simp [HR.out,HN.out,HK.out,HU.out,HL.out,HA.out]),HBw5.out⟩
        | true =>
         have HA:=Lh_ h8;clear h8;go_wp2_with fail;refine (Node_any d A c _ (by have:=named_orig HN.out;omega) (HOK.out.next HBw5.out)).mono ?_;rintro e w6 ⟨rfl,hbw6⟩;clear cp0 cp1 cp2 cp3 cp4 cp5 cp6 cp7 cp8 cp9;have HBw6:=tb_ HBw5 hbw6;have pw6:=kb_ pw5 hbw6;clear hbw6;obtain ⟨cp0,cp1,cp2,cp3,cp4,cp5,cp6,cp7,cp8,cp9⟩:=s10_ pw6.out.1;cases h9:(nodeD d).isSome with
         | false =>
          have HZ:=Lh_ (linkD_no h9);clear h9;go_wp2;go_ret;exact ⟨ret_int (by rw [checkD_eq];simp [HR.out,HN.out,HK.out,HU.out,HL.out,HA.out,HZ.out]),HBw6.out⟩
         | true =>
          have HZ:=Lh_ (linkD_yes h9);clear h9;go_wp2_with fail;refine (Link_any (nodeV d) _ (by have:=node_small (named_orig HN.out);omega) (HOK.out.next HBw6.out)).mono ?_;rintro e w7 ⟨rfl,hbw7⟩;clear cp0 cp1 cp2 cp3 cp4 cp5 cp6 cp7 cp8 cp9;have HBw7:=tb_ HBw6 hbw7;have pw7:=kb_ pw6 hbw7;clear hbw7;obtain ⟨cp0,cp1,cp2,cp3,cp4,cp5,cp6,cp7,cp8,cp9⟩:=s10_ pw7.out.1;cases h10:linkB (nodeV d) with
          | false =>
           have HZ2:=Lh_ (HZ.out.trans h10);clear h10;go_wp2;go_ret;exact ⟨ret_int (by rw [checkD_eq];simp [HR.out,HN.out,HK.out,HU.out,HL.out,HA.out,HZ2.out]),HBw7.out⟩
          | true =>
           have HZ2:=Lh_ (HZ.out.trans h10);clear h10;go_wp2;go_ret;exact ⟨ret_int (by rw [checkD_eq];simp [HR.out,HN.out,HK.out,HU.out,HL.out,HA.out,HZ2.out]),HBw7.out⟩
       ·
        have i7:(24:Int)<(d.attrs.length:Int):=by omega
        have HL:=Lh_ h7;clear h7;go_wp2;go_ret;exact ⟨ret_int (by rw [checkD_eq];simp [HR.out,HN.out,HK.out,HU.out,HL.out]),HBw4.out⟩
set_option maxRecDepth 100000 in
set_option maxHeartbeats 8000000 in
theorem RCheck_any (d:Dev) (A:Option Addr) (c:Nat) (w:World) (B:Nat) (hB:B≤w.heap.size) (hd:devOk d) (hx:Sl w B A c d.attrs) (hok:Ok w):Calls Tryz.prog 84 #[.agg #[.int .i64 d.idx,.int .i64 d.par,.string d.nm,.string d.orig,.string d.sub,.string d.drv,.string d.ali,.int .i64 d.kind,.int .i64 d.num,.slice A d.attrs.length c]] w fun e w'=>e=.returned (.int .i64 (checkD d))∧Below w.heap.size w w':=by
 have HOK:=Lh_ hok;have HX:=Lh_ hx;have HB:=Lh_ hB;have HD:=Lh_ hd;clear hok hx hB hd;have hl:=HX.out.1;have hl2:=HX.out.2.1;unfold maxLen at hl2;go_enter Tryz.func84,Tryz.ntmps84;go_upto_region 1 with fail
 obtain ⟨w1,hw1,hbw1,HGw1,HXpw1⟩:=bx_ w [.int .i64 d.idx,.int .i64 d.par,.string d.nm,.string d.orig,.string d.sub,.string d.drv,.string d.ali,.int .i64 d.kind,.int .i64 d.num,.slice A d.attrs.length c] 32;try simp only [hw1]
 have HBw1:=Lh_ hbw1;clear hw1 hbw1;try rw [← HGw1.out]
 obtain ⟨cp0,cp1,cp2,cp3,cp4,cp5,cp6,cp7,cp8,cp9⟩:=s10_ HXpw1.out.1;by_cases h:d.idx<1
 ·
  have eHT1:decide (d.idx<1)=true:=decide_eq_true h;have HR:=Lh_ (show rangeB d=false by unfold rangeB withinB;rw [Bool.eq_false_iff];intro hc;simp only [Bool.and_eq_true,decide_eq_true_eq] at hc;omega);clear h;go_wp2;go_ret;exact ⟨ret_int (by rw [checkD_eq];simp [HR.out]),HBw1.out⟩
 ·
  have eHT1:decide (d.idx<1)=false:=decide_eq_false h;have HT1:=Lh_ h;by_cases h:1073741824<d.idx
  ·
   have eHT2:decide (1073741824<d.idx)=true:=decide_eq_true h;have HR:=Lh_ (show rangeB d=false by unfold rangeB withinB;rw [Bool.eq_false_iff];intro hc;simp only [Bool.and_eq_true,decide_eq_true_eq] at hc;omega);clear h;go_wp2;go_ret;exact ⟨ret_int (by rw [checkD_eq];simp [HR.out]),HBw1.out⟩
  ·
   have eHT2:decide (1073741824<d.idx)=false:=decide_eq_false h;have HT2:=Lh_ h;by_cases h:d.par<0
   ·
    have eHT3:decide (d.par<0)=true:=decide_eq_true h;have HR:=Lh_ (show rangeB d=false by unfold rangeB withinB;rw [Bool.eq_false_iff];intro hc;simp only [Bool.and_eq_true,decide_eq_true_eq] at hc;omega);clear h;go_wp2;go_ret;exact ⟨ret_int (by rw [checkD_eq];simp [HR.out]),HBw1.out⟩
   ·
    have eHT3:decide (d.par<0)=false:=decide_eq_false h;have HT3:=Lh_ h;by_cases h:1073741824<d.par
    ·
     have eHT4:decide (1073741824<d.par)=true:=decide_eq_true h;have HR:=Lh_ (show rangeB d=false by unfold rangeB withinB;rw [Bool.eq_false_iff];intro hc;simp only [Bool.and_eq_true,decide_eq_true_eq] at hc;omega);clear h;go_wp2;go_ret;exact ⟨ret_int (by rw [checkD_eq];simp [HR.out]),HBw1.out⟩
    ·
     have eHT4:decide (1073741824<d.par)=false:=decide_eq_false h;have HT4:=Lh_ h;by_cases h3:d.par=d.idx
     ·
      have e3:(d.par == d.idx)=true:=beq_iff_eq.2 h3;have HR:=Lh_ (show rangeB d=false by unfold rangeB;simp [h3]);clear h3;go_wp2;go_ret;exact ⟨ret_int (by rw [checkD_eq];simp [HR.out]),HBw1.out⟩
     ·
      have e3:(d.par == d.idx)=false:=beq_eq_false_iff_ne.2 h3;have HR:=Lh_ (show rangeB d=true by have a1:=HT1.out;have a2:=HT2.out;have a3:=HT3.out;have a4:=HT4.out;unfold rangeB withinB;simp only [Bool.and_eq_true,decide_eq_true_eq,Bool.not_eq_true',decide_eq_false_iff_not];omega);clear h3;go_wp2_with fail;refine (RValid_any d.nm _ HD.out.2.2.1).mono ?_;rintro e w' ⟨rfl,rfl⟩;cases h0:validB d.nm with
      | false =>
       have HN0:=Lh_ h0;clear h0;have HN:=Lh_ (show namedB d=false by unfold namedB;simp [HN0.out]);go_wp2;go_ret;exact ⟨ret_int (by rw [checkD_eq];simp [HR.out,HN.out]),HBw1.out⟩
      | true =>
       have HN0:=Lh_ h0;clear h0;go_wp2_with fail;refine (RValid_any d.orig _ HD.out.2.2.2.1).mono ?_;rintro e w' ⟨rfl,rfl⟩;cases h1:validB d.orig with
       | false =>
        have HN1:=Lh_ h1;clear h1;have HN:=Lh_ (show namedB d=false by unfold namedB;simp [HN0.out,HN1.out]);go_wp2;go_ret;exact ⟨ret_int (by rw [checkD_eq];simp [HR.out,HN.out]),HBw1.out⟩
       | true =>
        have HN1:=Lh_ h1;clear h1;go_wp2_with fail;refine (RValid_any d.sub _ HD.out.2.2.2.2.1).mono ?_;rintro e w' ⟨rfl,rfl⟩;cases h2:validB d.sub with
        | false =>
         have HN2:=Lh_ h2;clear h2;have HN:=Lh_ (show namedB d=false by unfold namedB;simp [HN0.out,HN1.out,HN2.out]);go_wp2;go_ret;exact ⟨ret_int (by rw [checkD_eq];simp [HR.out,HN.out]),HBw1.out⟩
        | true =>
         have HN2:=Lh_ h2;clear h2;cases h3:d.drv.toList.isEmpty with
         | true =>
          have h3b:d.drv.toList=[]:=List.isEmpty_iff.1 h3;have HN3:=Lh_ h3;go_wp2_with fail;refine (RText_any d.ali _ HD.out.2.2.2.2.2.2.1).mono ?_;rintro e w' ⟨rfl,rfl⟩;cases h5:textB d.ali with
          | false =>
           have HN5:=Lh_ h5;clear h5;have HN:=Lh_ (show namedB d=false by unfold namedB;simp [HN0.out,HN1.out,HN2.out,HN3.out,HN5.out]);go_wp2;go_ret;exact ⟨ret_int (by rw [checkD_eq];simp [HR.out,HN.out]),HBw1.out⟩
          | true =>
           have HN5:=Lh_ h5;clear h5;have HN:=Lh_ (show namedB d=true by unfold namedB;simp [HN0.out,HN1.out,HN2.out,HN3.out,HN5.out]);by_cases h:d.kind<1
           ·
            have eHK1:decide (d.kind<1)=true:=decide_eq_true h;have HK:=Lh_ (show kindB d=false by unfold kindB;rw [if_neg (by omega)];rw [decide_eq_false (by omega)];rfl);clear h;go_wp2;go_ret;exact ⟨ret_int (by rw [checkD_eq];simp [HR.out,HN.out,HK.out]),HBw1.out⟩
           ·
            have eHK1:decide (d.kind<1)=false:=decide_eq_false h;have HK1:=Lh_ h;by_cases h:4<d.kind
            ·
             have eHK2:decide (4<d.kind)=true:=decide_eq_true h;have HK:=Lh_ (show kindB d=false by unfold kindB;rw [if_neg (by omega)];rw [decide_eq_false (by omega)];rfl);clear h;go_wp2;go_ret;exact ⟨ret_int (by rw [checkD_eq];simp [HR.out,HN.out,HK.out]),HBw1.out⟩
            ·
             have eHK2:decide (4<d.kind)=false:=decide_eq_false h;have HK2:=Lh_ h;by_cases h4:d.kind=4
             ·
              have e4:(d.kind == 4)=true:=beq_iff_eq.2 h4;have e4n:(d.kind != 4)=false:=by simp [h4]
              have H4:=Lh_ h4;clear h4;go_wp2_with fail;refine (RInterface_any d.nm _ HD.out.2.2.1).mono ?_;rintro e w' ⟨rfl,rfl⟩;cases h1:ifaceB d.nm with
              | false =>
               have HK:=Lh_ (show kindB d=false by unfold kindB;rw [if_pos H4.out,h1];rfl);clear h1;go_wp2;go_ret;exact ⟨ret_int (by rw [checkD_eq];simp [HR.out,HN.out,HK.out]),HBw1.out⟩
              | true =>
               have H1:=Lh_ h1;clear h1;go_wp2_with fail;refine (RInterface_any d.orig _ HD.out.2.2.2.1).mono ?_;rintro e w' ⟨rfl,rfl⟩;cases h2:ifaceB d.orig with
               | false =>
                have HK:=Lh_ (show kindB d=false by unfold kindB;rw [if_pos H4.out,H1.out,h2];rfl);clear h2;go_wp2;go_ret;exact ⟨ret_int (by rw [checkD_eq];simp [HR.out,HN.out,HK.out]),HBw1.out⟩
               | true =>
                have HK:=Lh_ (show kindB d=true by unfold kindB;rw [if_pos H4.out,H1.out,h2];rfl);clear h2;go_wp2_with fail;refine (RNode_any d A c _ (by have:=named_orig HN.out;omega) (HOK.out.next HBw1.out)).mono ?_;rintro e w2 ⟨rfl,hbw2⟩;clear cp0 cp1 cp2 cp3 cp4 cp5 cp6 cp7 cp8 cp9;have HBw2:=tb_ HBw1 hbw2;have pw2:=kb_ HXpw1 hbw2;clear hbw2;obtain ⟨cp0,cp1,cp2,cp3,cp4,cp5,cp6,cp7,cp8,cp9⟩:=s10_ pw2.out.1;cases h9:(nodeD d).isSome with
                | false =>
                 have HKN:=Lh_ ((node_kind d).symm.trans h9);have HZ:=Lh_ (linkD_no h9);clear h9;by_cases h6:d.num=0
                 ·
                  have e6:(d.num != 0)=false:=by simp [h6]
                  have e6b:(d.num == 0)=true:=beq_iff_eq.2 h6;have HU:=Lh_ (show numberB d=true by unfold numberB;rw [if_neg (by rw [HKN.out];decide)];exact decide_eq_true h6);clear h6;by_cases h7:d.attrs.length≤24
                  ·
                   have i7:¬ (24:Int)<(d.attrs.length:Int):=by omega
                   have HL:=Lh_ h7;clear h7;go_wp2_with fail;have HXC:=Lh_ (HX.out.keep (HBw2.out.mono HB.out));go_loop [5] (fun i=>∃ k:Nat,k≤d.attrs.length∧i=.int .i64 k∧Hid ((d.attrs.take k).all attrB=true)) (fun i=>d.attrs.length - (intOf i).toNat)
                   case atStart=>exact ⟨0,Nat.zero_le _,rfl,rfl⟩
                   case round =>
                    obtain ⟨k,hk,rfl,HA⟩:=hrel;by_cases hlt:k<d.attrs.length
                    ·
                     obtain ⟨b3,o3,rfl,_,hsz,cx0,cx1⟩:=HXC.out.attr hlt;have hxk:d.attrs[k]? = some d.attrs[k]:=List.getElem?_eq_getElem hlt;obtain ⟨x,hx⟩:∃ x,d.attrs[k]'hlt=x:=⟨_,rfl⟩;rw [hx] at cx0 cx1 hsz hxk;have HXK:=Lh_ hxk;have HSZ:=Lh_ hsz;clear hx hxk hsz;have i1:(k:Int)<(d.attrs.length:Int):=by omega
                     go_wp2_with fail;refine (RValid_any x.name _ HSZ.out.1).mono ?_;rintro e w' ⟨rfl,rfl⟩;cases h1:validB x.name with
                     | false =>
                      have H1:=Lh_ h1;clear h1;have HA2:=Lh_ (show attrsB d.attrs=false by unfold attrsB;rw [all_stop (p:=attrB) HXK.out (by unfold attrB;simp [H1.out]),Bool.and_false]);go_wp2;go_ret;exact ⟨ret_int (by rw [checkD_eq];simp [HR.out,HN.out,HK.out,HU.out,HL.out,HA2.out]),HBw2.out⟩
                     | true =>
                      have H1:=Lh_ h1;clear h1;go_wp2_with fail;refine (RText_any x.value _ HSZ.out.2).mono ?_;rintro e w' ⟨rfl,rfl⟩;cases h2:textB x.value with
                      | false =>
                       have H2:=Lh_ h2;clear h2;have HA2:=Lh_ (show attrsB d.attrs=false by unfold attrsB;rw [all_stop (p:=attrB) HXK.out (by unfold attrB;simp [H1.out,H2.out]),Bool.and_false]);go_wp2;go_ret;exact ⟨ret_int (by rw [checkD_eq];simp [HR.out,HN.out,HK.out,HU.out,HL.out,HA2.out]),HBw2.out⟩
                      | true =>
                       have H2:=Lh_ h2;clear h2;cases h3:x.value.toList.isEmpty with
                       | true =>
                        have h3b:x.value.toList=[]:=List.isEmpty_iff.1 h3;have H3:=Lh_ h3;have HA2:=Lh_ (show attrsB d.attrs=false by unfold attrsB;rw [all_stop (p:=attrB) HXK.out (by unfold attrB;simp [H1.out,H2.out,H3.out]),Bool.and_false]);go_wp2;go_ret;exact ⟨ret_int (by rw [checkD_eq];simp [HR.out,HN.out,HK.out,HU.out,HL.out,HA2.out]),HBw2.out⟩
                       | false =>
                        have h3b:¬ x.value.toList=[]:=fun h=>by rw [h] at h3;cases h3
                        have H3:=Lh_ h3;go_wp2;go_round
                        case rel=>exact ⟨k+1,by omega,by go_num,all_step HA.out HXK.out (by unfold attrB;simp [H1.out,H2.out,H3.out])⟩
                        case measure=>simp [intOf];omega
                    ·
                     have i1:¬ (k:Int)<(d.attrs.length:Int):=by omega
                     have HALL:=Lh_ (all_end HA.out (by omega));go_wp2_with fail;refine (RSorted_any A c d.attrs _ B HXC.out).mono ?_;rintro e w3 ⟨rfl,hbw3⟩;clear cp0 cp1 cp2 cp3 cp4 cp5 cp6 cp7 cp8 cp9;have HBw3:=tb_ HBw2 hbw3;have pw3:=kb_ pw2 hbw3;clear hbw3;obtain ⟨cp0,cp1,cp2,cp3,cp4,cp5,cp6,cp7,cp8,cp9⟩:=s10_ pw3.out.1;cases hs:sortedA d.attrs with
                     | false =>
                      have HA2:=Lh_ (show attrsB d.attrs=false by unfold attrsB;rw [hs];rfl);clear hs;go_wp2;go_ret;exact ⟨ret_int (by rw [checkD_eq];simp [HR.out,HN.out,HK.out,HU.out,HL.out,HA2.out]),HBw3.out⟩
                     | true =>
                      have HA2:=Lh_ (show attrsB d.attrs=true by unfold attrsB;rw [hs,HALL.out];rfl);clear hs;go_wp2;go_ret;exact ⟨ret_int (by rw [checkD_eq];simp [HR.out,HN.out,HK.out,HU.out,HL.out,HA2.out,HZ.out]),HBw3.out⟩
                  ·
                   have i7:(24:Int)<(d.attrs.length:Int):=by omega
                   have HL:=Lh_ h7;clear h7;go_wp2;go_ret;exact ⟨ret_int (by rw [checkD_eq];simp [HR.out,HN.out,HK.out,HU.out,HL.out]),HBw2.out⟩
                 ·
                  have e6:(d.num != 0)=true:=by simp [h6]
                  have e6b:(d.num == 0)=false:=beq_eq_false_iff_ne.2 h6;have HU:=Lh_ (show numberB d=false by unfold numberB;rw [if_neg (by rw [HKN.out];decide)];exact decide_eq_false h6);clear h6;go_wp2;go_ret;exact ⟨ret_int (by rw [checkD_eq];simp [HR.out,HN.out,HK.out,HU.out]),HBw2.out⟩
                | true =>
                 have HKN:=Lh_ ((node_kind d).symm.trans h9);have HZ:=Lh_ (linkD_yes h9);clear h9;by_cases h:d.num<1
                 ·
                  have eHU1:decide (d.num<1)=true:=decide_eq_true h;have HU:=Lh_ (show numberB d=false by unfold numberB withinB;rw [if_pos HKN.out];rw [Bool.eq_false_iff];intro hc;simp only [Bool.and_eq_true,decide_eq_true_eq] at hc;omega);clear h;go_wp2;go_ret;exact ⟨ret_int (by rw [checkD_eq];simp [HR.out,HN.out,HK.out,HU.out]),HBw2.out⟩
                 ·
                  have eHU1:decide (d.num<1)=false:=decide_eq_false h;have HU1:=Lh_ h;by_cases h:1073741824<d.num
                  ·
                   have eHU2:decide (1073741824<d.num)=true:=decide_eq_true h;have HU:=Lh_ (show numberB d=false by unfold numberB withinB;rw [if_pos HKN.out];rw [Bool.eq_false_iff];intro hc;simp only [Bool.and_eq_true,decide_eq_true_eq] at hc;omega);clear h;go_wp2;go_ret;exact ⟨ret_int (by rw [checkD_eq];simp [HR.out,HN.out,HK.out,HU.out]),HBw2.out⟩
                  ·
                   have eHU2:decide (1073741824<d.num)=false:=decide_eq_false h;have HU2:=Lh_ h;have HU:=Lh_ (show numberB d=true by have a1:=HU1.out;have a2:=HU2.out;unfold numberB withinB;rw [if_pos HKN.out];simp only [Bool.and_eq_true,decide_eq_true_eq];omega);by_cases h7:d.attrs.length≤24
                   ·
                    have i7:¬ (24:Int)<(d.attrs.length:Int):=by omega
                    have HL:=Lh_ h7;clear h7;go_wp2_with fail;have HXC:=Lh_ (HX.out.keep (HBw2.out.mono HB.out));go_loop [5] (fun i=>∃ k:Nat,k≤d.attrs.length∧i=.int .i64 k∧Hid ((d.attrs.take k).all attrB=true)) (fun i=>d.attrs.length - (intOf i).toNat)
                    case atStart=>exact ⟨0,Nat.zero_le _,rfl,rfl⟩
                    case round =>
                     obtain ⟨k,hk,rfl,HA⟩:=hrel;by_cases hlt:k<d.attrs.length
                     ·
                      obtain ⟨b3,o3,rfl,_,hsz,cx0,cx1⟩:=HXC.out.attr hlt;have hxk:d.attrs[k]? = some d.attrs[k]:=List.getElem?_eq_getElem hlt;obtain ⟨x,hx⟩:∃ x,d.attrs[k]'hlt=x:=⟨_,rfl⟩;rw [hx] at cx0 cx1 hsz hxk;have HXK:=Lh_ hxk;have HSZ:=Lh_ hsz;clear hx hxk hsz;have i1:(k:Int)<(d.attrs.length:Int):=by omega
                      go_wp2_with fail;refine (RValid_any x.name _ HSZ.out.1).mono ?_;rintro e w' ⟨rfl,rfl⟩;cases h1:validB x.name with
                      | false =>
                       have H1:=Lh_ h1;clear h1;have HA2:=Lh_ (show attrsB d.attrs=false by unfold attrsB;rw [all_stop (p:=attrB) HXK.out (by unfold attrB;simp [H1.out]),Bool.and_false]);go_wp2;go_ret;exact ⟨ret_int (by rw [checkD_eq];simp [HR.out,HN.out,HK.out,HU.out,HL.out,HA2.out]),HBw2.out⟩
                      | true =>
                       have H1:=Lh_ h1;clear h1;go_wp2_with fail;refine (RText_any x.value _ HSZ.out.2).mono ?_;rintro e w' ⟨rfl,rfl⟩;cases h2:textB x.value with
                       | false =>
                        have H2:=Lh_ h2;clear h2;have HA2:=Lh_ (show attrsB d.attrs=false by unfold attrsB;rw [all_stop (p:=attrB) HXK.out (by unfold attrB;simp [H1.out,H2.out]),Bool.and_false]);go_wp2;go_ret;exact ⟨ret_int (by rw [checkD_eq];simp [HR.out,HN.out,HK.out,HU.out,HL.out,HA2.out]),HBw2.out⟩
                       | true =>
                        have H2:=Lh_ h2;clear h2;cases h3:x.value.toList.isEmpty with
                        | true =>
                         have h3b:x.value.toList=[]:=List.isEmpty_iff.1 h3;have H3:=Lh_ h3;have HA2:=Lh_ (show attrsB d.attrs=false by unfold attrsB;rw [all_stop (p:=attrB) HXK.out (by unfold attrB;simp [H1.out,H2.out,H3.out]),Bool.and_false]);go_wp2;go_ret;exact ⟨ret_int (by rw [checkD_eq];simp [HR.out,HN.out,HK.out,HU.out,HL.out,HA2.out]),HBw2.out⟩
                        | false =>
                         have h3b:¬ x.value.toList=[]:=fun h=>by rw [h] at h3;cases h3
                         have H3:=Lh_ h3;go_wp2;go_round
                         case rel=>exact ⟨k+1,by omega,by go_num,all_step HA.out HXK.out (by unfold attrB;simp [H1.out,H2.out,H3.out])⟩
                         case measure=>simp [intOf];omega
                     ·
                      have i1:¬ (k:Int)<(d.attrs.length:Int):=by omega
                      have HALL:=Lh_ (all_end HA.out (by omega));go_wp2_with fail;refine (RSorted_any A c d.attrs _ B HXC.out).mono ?_;rintro e w4 ⟨rfl,hbw4⟩;clear cp0 cp1 cp2 cp3 cp4 cp5 cp6 cp7 cp8 cp9;have HBw4:=tb_ HBw2 hbw4;have pw4:=kb_ pw2 hbw4;clear hbw4;obtain ⟨cp0,cp1,cp2,cp3,cp4,cp5,cp6,cp7,cp8,cp9⟩:=s10_ pw4.out.1;cases hs:sortedA d.attrs with
                      | false =>
                       have HA2:=Lh_ (show attrsB d.attrs=false by unfold attrsB;rw [hs];rfl);clear hs;go_wp2;go_ret;exact ⟨ret_int (by rw [checkD_eq];simp [HR.out,HN.out,HK.out,HU.out,HL.out,HA2.out]),HBw4.out⟩
                      | true =>
                       have HA2:=Lh_ (show attrsB d.attrs=true by unfold attrsB;rw [hs,HALL.out];rfl);clear hs;go_wp2_with fail;refine (RLink_any (nodeV d) _ (by have:=node_small (named_orig HN.out);omega) (HOK.out.next HBw4.out)).mono ?_;rintro e w5 ⟨rfl,hbw5⟩;clear cp0 cp1 cp2 cp3 cp4 cp5 cp6 cp7 cp8 cp9;have HBw5:=tb_ HBw4 hbw5;have pw5:=kb_ pw4 hbw5;clear hbw5;obtain ⟨cp0,cp1,cp2,cp3,cp4,cp5,cp6,cp7,cp8,cp9⟩:=s10_ pw5.out.1;cases h10:linkB (nodeV d) with
                       | false =>
                        have HZ2:=Lh_ (HZ.out.trans h10);clear h10;go_wp2;go_ret;exact ⟨ret_int (by rw [checkD_eq];simp [HR.out,HN.out,HK.out,HU.out,HL.out,HA2.out,HZ2.out]),HBw5.out⟩
                       | true =>
                        have HZ2:=Lh_ (HZ.out.trans h10);clear h10;go_wp2;go_ret;exact ⟨ret_int (by rw [checkD_eq];simp [HR.out,HN.out,HK.out,HU.out,HL.out,HA2.out,HZ2.out]),HBw5.out⟩
                   ·
                    have i7:(24:Int)<(d.attrs.length:Int):=by omega
                    have HL:=Lh_ h7;clear h7;go_wp2;go_ret;exact ⟨ret_int (by rw [checkD_eq];simp [HR.out,HN.out,HK.out,HU.out,HL.out]),HBw2.out⟩
             ·
              have e4:(d.kind == 4)=false:=beq_eq_false_iff_ne.2 h4;have e4n:(d.kind != 4)=true:=by simp [h4]
              have H4:=Lh_ h4;by_cases h5:d.nm=d.orig
              ·
               have e5:(d.nm.toList == d.orig.toList)=true:=by rw [ba_beq];exact decide_eq_true h5
               have HK:=Lh_ (show kindB d=true by have a1:=HK1.out;have a2:=HK2.out;unfold kindB;rw [if_neg h4,decide_eq_true h5,decide_eq_true (by omega)];rfl);clear h4 h5;go_wp2_with fail;refine (RNode_any d A c _ (by have:=named_orig HN.out;omega) (HOK.out.next HBw1.out)).mono ?_;rintro e w6 ⟨rfl,hbw6⟩;clear cp0 cp1 cp2 cp3 cp4 cp5 cp6 cp7 cp8 cp9;have HBw6:=tb_ HBw1 hbw6;have pw6:=kb_ HXpw1 hbw6;clear hbw6;obtain ⟨cp0,cp1,cp2,cp3,cp4,cp5,cp6,cp7,cp8,cp9⟩:=s10_ pw6.out.1;cases h9:(nodeD d).isSome with
               | false =>
                have HKN:=Lh_ ((node_kind d).symm.trans h9);have HZ:=Lh_ (linkD_no h9);clear h9;by_cases h6:d.num=0
                ·
                 have e6:(d.num != 0)=false:=by simp [h6]
                 have e6b:(d.num == 0)=true:=beq_iff_eq.2 h6;have HU:=Lh_ (show numberB d=true by unfold numberB;rw [if_neg (by rw [HKN.out];decide)];exact decide_eq_true h6);clear h6;by_cases h7:d.attrs.length≤24
                 ·
                  have i7:¬ (24:Int)<(d.attrs.length:Int):=by omega
                  have HL:=Lh_ h7;clear h7;go_wp2_with fail;have HXC:=Lh_ (HX.out.keep (HBw6.out.mono HB.out));go_loop [5] (fun i=>∃ k:Nat,k≤d.attrs.length∧i=.int .i64 k∧Hid ((d.attrs.take k).all attrB=true)) (fun i=>d.attrs.length - (intOf i).toNat)
                  case atStart=>exact ⟨0,Nat.zero_le _,rfl,rfl⟩
                  case round =>
                   obtain ⟨k,hk,rfl,HA⟩:=hrel;by_cases hlt:k<d.attrs.length
                   ·
                    obtain ⟨b3,o3,rfl,_,hsz,cx0,cx1⟩:=HXC.out.attr hlt;have hxk:d.attrs[k]? = some d.attrs[k]:=List.getElem?_eq_getElem hlt;obtain ⟨x,hx⟩:∃ x,d.attrs[k]'hlt=x:=⟨_,rfl⟩;rw [hx] at cx0 cx1 hsz hxk;have HXK:=Lh_ hxk;have HSZ:=Lh_ hsz;clear hx hxk hsz;have i1:(k:Int)<(d.attrs.length:Int):=by omega
                    go_wp2_with fail;refine (RValid_any x.name _ HSZ.out.1).mono ?_;rintro e w' ⟨rfl,rfl⟩;cases h1:validB x.name with
                    | false =>
                     have H1:=Lh_ h1;clear h1;have HA2:=Lh_ (show attrsB d.attrs=false by unfold attrsB;rw [all_stop (p:=attrB) HXK.out (by unfold attrB;simp [H1.out]),Bool.and_false]);go_wp2;go_ret;exact ⟨ret_int (by rw [checkD_eq];simp [HR.out,HN.out,HK.out,HU.out,HL.out,HA2.out]),HBw6.out⟩
                    | true =>
                     have H1:=Lh_ h1;clear h1;go_wp2_with fail;refine (RText_any x.value _ HSZ.out.2).mono ?_;rintro e w' ⟨rfl,rfl⟩;cases h2:textB x.value with
                     | false =>
                      have H2:=Lh_ h2;clear h2;have HA2:=Lh_ (show attrsB d.attrs=false by unfold attrsB;rw [all_stop (p:=attrB) HXK.out (by unfold attrB;simp [H1.out,H2.out]),Bool.and_false]);go_wp2;go_ret;exact ⟨ret_int (by rw [checkD_eq];simp [HR.out,HN.out,HK.out,HU.out,HL.out,HA2.out]),HBw6.out⟩
                     | true =>
                      have H2:=Lh_ h2;clear h2;cases h3:x.value.toList.isEmpty with
                      | true =>
                       have h3b:x.value.toList=[]:=List.isEmpty_iff.1 h3;have H3:=Lh_ h3;have HA2:=Lh_ (show attrsB d.attrs=false by unfold attrsB;rw [all_stop (p:=attrB) HXK.out (by unfold attrB;simp [H1.out,H2.out,H3.out]),Bool.and_false]);go_wp2;go_ret;exact ⟨ret_int (by rw [checkD_eq];simp [HR.out,HN.out,HK.out,HU.out,HL.out,HA2.out]),HBw6.out⟩
                      | false =>
                       have h3b:¬ x.value.toList=[]:=fun h=>by rw [h] at h3;cases h3
                       have H3:=Lh_ h3;go_wp2;go_round
                       case rel=>exact ⟨k+1,by omega,by go_num,all_step HA.out HXK.out (by unfold attrB;simp [H1.out,H2.out,H3.out])⟩
                       case measure=>simp [intOf];omega
                   ·
                    have i1:¬ (k:Int)<(d.attrs.length:Int):=by omega
                    have HALL:=Lh_ (all_end HA.out (by omega));go_wp2_with fail;refine (RSorted_any A c d.attrs _ B HXC.out).mono ?_;rintro e w7 ⟨rfl,hbw7⟩;clear cp0 cp1 cp2 cp3 cp4 cp5 cp6 cp7 cp8 cp9;have HBw7:=tb_ HBw6 hbw7;have pw7:=kb_ pw6 hbw7;clear hbw7;obtain ⟨cp0,cp1,cp2,cp3,cp4,cp5,cp6,cp7,cp8,cp9⟩:=s10_ pw7.out.1;cases hs:sortedA d.attrs with
                    | false =>
                     have HA2:=Lh_ (show attrsB d.attrs=false by unfold attrsB;rw [hs];rfl);clear hs;go_wp2;go_ret;exact ⟨ret_int (by rw [checkD_eq];simp [HR.out,HN.out,HK.out,HU.out,HL.out,HA2.out]),HBw7.out⟩
                    | true =>
                     have HA2:=Lh_ (show attrsB d.attrs=true by unfold attrsB;rw [hs,HALL.out];rfl);clear hs;go_wp2;go_ret;exact ⟨ret_int (by rw [checkD_eq];simp [HR.out,HN.out,HK.out,HU.out,HL.out,HA2.out,HZ.out]),HBw7.out⟩
                 ·
                  have i7:(24:Int)<(d.attrs.length:Int):=by omega
                  have HL:=Lh_ h7;clear h7;go_wp2;go_ret;exact ⟨ret_int (by rw [checkD_eq];simp [HR.out,HN.out,HK.out,HU.out,HL.out]),HBw6.out⟩
                ·
                 have e6:(d.num != 0)=true:=by simp [h6]
                 have e6b:(d.num == 0)=false:=beq_eq_false_iff_ne.2 h6;have HU:=Lh_ (show numberB d=false by unfold numberB;rw [if_neg (by rw [HKN.out];decide)];exact decide_eq_false h6);clear h6;go_wp2;go_ret;exact ⟨ret_int (by rw [checkD_eq];simp [HR.out,HN.out,HK.out,HU.out]),HBw6.out⟩
               | true =>
                have HKN:=Lh_ ((node_kind d).symm.trans h9);have HZ:=Lh_ (linkD_yes h9);clear h9;by_cases h:d.num<1
                ·
                 have eHU1:decide (d.num<1)=true:=decide_eq_true h;have HU:=Lh_ (show numberB d=false by unfold numberB withinB;rw [if_pos HKN.out];rw [Bool.eq_false_iff];intro hc;simp only [Bool.and_eq_true,decide_eq_true_eq] at hc;omega);clear h;go_wp2;go_ret;exact ⟨ret_int (by rw [checkD_eq];simp [HR.out,HN.out,HK.out,HU.out]),HBw6.out⟩
                ·
                 have eHU1:decide (d.num<1)=false:=decide_eq_false h;have HU1:=Lh_ h;by_cases h:1073741824<d.num
                 ·
                  have eHU2:decide (1073741824<d.num)=true:=decide_eq_true h;have HU:=Lh_ (show numberB d=false by unfold numberB withinB;rw [if_pos HKN.out];rw [Bool.eq_false_iff];intro hc;simp only [Bool.and_eq_true,decide_eq_true_eq] at hc;omega);clear h;go_wp2;go_ret;exact ⟨ret_int (by rw [checkD_eq];simp [HR.out,HN.out,HK.out,HU.out]),HBw6.out⟩
                 ·
                  have eHU2:decide (1073741824<d.num)=false:=decide_eq_false h;have HU2:=Lh_ h;have HU:=Lh_ (show numberB d=true by have a1:=HU1.out;have a2:=HU2.out;unfold numberB withinB;rw [if_pos HKN.out];simp only [Bool.and_eq_true,decide_eq_true_eq];omega);by_cases h7:d.attrs.length≤24
                  ·
                   have i7:¬ (24:Int)<(d.attrs.length:Int):=by omega
                   have HL:=Lh_ h7;clear h7;go_wp2_with fail;have HXC:=Lh_ (HX.out.keep (HBw6.out.mono HB.out));go_loop [5] (fun i=>∃ k:Nat,k≤d.attrs.length∧i=.int .i64 k∧Hid ((d.attrs.take k).all attrB=true)) (fun i=>d.attrs.length - (intOf i).toNat)
                   case atStart=>exact ⟨0,Nat.zero_le _,rfl,rfl⟩
                   case round =>
                    obtain ⟨k,hk,rfl,HA⟩:=hrel;by_cases hlt:k<d.attrs.length
                    ·
                     obtain ⟨b3,o3,rfl,_,hsz,cx0,cx1⟩:=HXC.out.attr hlt;have hxk:d.attrs[k]? = some d.attrs[k]:=List.getElem?_eq_getElem hlt;obtain ⟨x,hx⟩:∃ x,d.attrs[k]'hlt=x:=⟨_,rfl⟩;rw [hx] at cx0 cx1 hsz hxk;have HXK:=Lh_ hxk;have HSZ:=Lh_ hsz;clear hx hxk hsz;have i1:(k:Int)<(d.attrs.length:Int):=by omega
                     go_wp2_with fail;refine (RValid_any x.name _ HSZ.out.1).mono ?_;rintro e w' ⟨rfl,rfl⟩;cases h1:validB x.name with
                     | false =>
                      have H1:=Lh_ h1;clear h1;have HA2:=Lh_ (show attrsB d.attrs=false by unfold attrsB;rw [all_stop (p:=attrB) HXK.out (by unfold attrB;simp [H1.out]),Bool.and_false]);go_wp2;go_ret;exact ⟨ret_int (by rw [checkD_eq];simp [HR.out,HN.out,HK.out,HU.out,HL.out,HA2.out]),HBw6.out⟩
                     | true =>
                      have H1:=Lh_ h1;clear h1;go_wp2_with fail;refine (RText_any x.value _ HSZ.out.2).mono ?_;rintro e w' ⟨rfl,rfl⟩;cases h2:textB x.value with
                      | false =>
                       have H2:=Lh_ h2;clear h2;have HA2:=Lh_ (show attrsB d.attrs=false by unfold attrsB;rw [all_stop (p:=attrB) HXK.out (by unfold attrB;simp [H1.out,H2.out]),Bool.and_false]);go_wp2;go_ret;exact ⟨ret_int (by rw [checkD_eq];simp [HR.out,HN.out,HK.out,HU.out,HL.out,HA2.out]),HBw6.out⟩
                      | true =>
                       have H2:=Lh_ h2;clear h2;cases h3:x.value.toList.isEmpty with
                       | true =>
                        have h3b:x.value.toList=[]:=List.isEmpty_iff.1 h3;have H3:=Lh_ h3;have HA2:=Lh_ (show attrsB d.attrs=false by unfold attrsB;rw [all_stop (p:=attrB) HXK.out (by unfold attrB;simp [H1.out,H2.out,H3.out]),Bool.and_false]);go_wp2;go_ret;exact ⟨ret_int (by rw [checkD_eq];simp [HR.out,HN.out,HK.out,HU.out,HL.out,HA2.out]),HBw6.out⟩
                       | false =>
                        have h3b:¬ x.value.toList=[]:=fun h=>by rw [h] at h3;cases h3
                        have H3:=Lh_ h3;go_wp2;go_round
                        case rel=>exact ⟨k+1,by omega,by go_num,all_step HA.out HXK.out (by unfold attrB;simp [H1.out,H2.out,H3.out])⟩
                        case measure=>simp [intOf];omega
                    ·
                     have i1:¬ (k:Int)<(d.attrs.length:Int):=by omega
                     have HALL:=Lh_ (all_end HA.out (by omega));go_wp2_with fail;refine (RSorted_any A c d.attrs _ B HXC.out).mono ?_;rintro e w8 ⟨rfl,hbw8⟩;clear cp0 cp1 cp2 cp3 cp4 cp5 cp6 cp7 cp8 cp9;have HBw8:=tb_ HBw6 hbw8;have pw8:=kb_ pw6 hbw8;clear hbw8;obtain ⟨cp0,cp1,cp2,cp3,cp4,cp5,cp6,cp7,cp8,cp9⟩:=s10_ pw8.out.1;cases hs:sortedA d.attrs with
                     | false =>
                      have HA2:=Lh_ (show attrsB d.attrs=false by unfold attrsB;rw [hs];rfl);clear hs;go_wp2;go_ret;exact ⟨ret_int (by rw [checkD_eq];simp [HR.out,HN.out,HK.out,HU.out,HL.out,HA2.out]),HBw8.out⟩
                     | true =>
                      have HA2:=Lh_ (show attrsB d.attrs=true by unfold attrsB;rw [hs,HALL.out];rfl);clear hs;go_wp2_with fail;refine (RLink_any (nodeV d) _ (by have:=node_small (named_orig HN.out);omega) (HOK.out.next HBw8.out)).mono ?_;rintro e w9 ⟨rfl,hbw9⟩;clear cp0 cp1 cp2 cp3 cp4 cp5 cp6 cp7 cp8 cp9;have HBw9:=tb_ HBw8 hbw9;have pw9:=kb_ pw8 hbw9;clear hbw9;obtain ⟨cp0,cp1,cp2,cp3,cp4,cp5,cp6,cp7,cp8,cp9⟩:=s10_ pw9.out.1;cases h10:linkB (nodeV d) with
                      | false =>
                       have HZ2:=Lh_ (HZ.out.trans h10);clear h10;go_wp2;go_ret;exact ⟨ret_int (by rw [checkD_eq];simp [HR.out,HN.out,HK.out,HU.out,HL.out,HA2.out,HZ2.out]),HBw9.out⟩
                      | true =>
                       have HZ2:=Lh_ (HZ.out.trans h10);clear h10;go_wp2;go_ret;exact ⟨ret_int (by rw [checkD_eq];simp [HR.out,HN.out,HK.out,HU.out,HL.out,HA2.out,HZ2.out]),HBw9.out⟩
                  ·
                   have i7:(24:Int)<(d.attrs.length:Int):=by omega
                   have HL:=Lh_ h7;clear h7;go_wp2;go_ret;exact ⟨ret_int (by rw [checkD_eq];simp [HR.out,HN.out,HK.out,HU.out,HL.out]),HBw6.out⟩
              ·
               have e5:(d.nm.toList == d.orig.toList)=false:=by rw [ba_beq];exact decide_eq_false h5
               have HK:=Lh_ (show kindB d=false by unfold kindB;rw [if_neg h4,decide_eq_false h5,Bool.and_false]);clear h4 h5;go_wp2;go_ret;exact ⟨ret_int (by rw [checkD_eq];simp [HR.out,HN.out,HK.out]),HBw1.out⟩
         | false =>
          have h3b:¬ d.drv.toList=[]:=fun h=>by rw [h] at h3;cases h3
          have HN3:=Lh_ h3;go_wp2_with fail;refine (RValid_any d.drv _ HD.out.2.2.2.2.2.1).mono ?_;rintro e w' ⟨rfl,rfl⟩;cases h4:validB d.drv with
          | false =>
           have HN4:=Lh_ h4;clear h4;have HN:=Lh_ (show namedB d=false by unfold namedB;simp [HN0.out,HN1.out,HN2.out,HN3.out,HN4.out]);go_wp2;go_ret;exact ⟨ret_int (by rw [checkD_eq];simp [HR.out,HN.out]),HBw1.out⟩
          | true =>
           have HN4:=Lh_ h4;clear h4;go_wp2_with fail;refine (RText_any d.ali _ HD.out.2.2.2.2.2.2.1).mono ?_;rintro e w' ⟨rfl,rfl⟩;cases h5:textB d.ali with
           | false =>
            have HN5:=Lh_ h5;clear h5;have HN:=Lh_ (show namedB d=false by unfold namedB;simp [HN0.out,HN1.out,HN2.out,HN3.out,HN4.out,HN5.out]);go_wp2;go_ret;exact ⟨ret_int (by rw [checkD_eq];simp [HR.out,HN.out]),HBw1.out⟩
           | true =>
            have HN5:=Lh_ h5;clear h5;have HN:=Lh_ (show namedB d=true by unfold namedB;simp [HN0.out,HN1.out,HN2.out,HN3.out,HN4.out,HN5.out]);by_cases h:d.kind<1
            ·
             have eHK1:decide (d.kind<1)=true:=decide_eq_true h;have HK:=Lh_ (show kindB d=false by unfold kindB;rw [if_neg (by omega)];rw [decide_eq_false (by omega)];rfl);clear h;go_wp2;go_ret;exact ⟨ret_int (by rw [checkD_eq];simp [HR.out,HN.out,HK.out]),HBw1.out⟩
            ·
             have eHK1:decide (d.kind<1)=false:=decide_eq_false h;have HK1:=Lh_ h;by_cases h:4<d.kind
             ·
              have eHK2:decide (4<d.kind)=true:=decide_eq_true h;have HK:=Lh_ (show kindB d=false by unfold kindB;rw [if_neg (by omega)];rw [decide_eq_false (by omega)];rfl);clear h;go_wp2;go_ret;exact ⟨ret_int (by rw [checkD_eq];simp [HR.out,HN.out,HK.out]),HBw1.out⟩
             ·
              have eHK2:decide (4<d.kind)=false:=decide_eq_false h;have HK2:=Lh_ h;by_cases h4:d.kind=4
              ·
               have e4:(d.kind == 4)=true:=beq_iff_eq.2 h4;have e4n:(d.kind != 4)=false:=by simp [h4]
               have H4:=Lh_ h4;clear h4;go_wp2_with fail;refine (RInterface_any d.nm _ HD.out.2.2.1).mono ?_;rintro e w' ⟨rfl,rfl⟩;cases h1:ifaceB d.nm with
               | false =>
                have HK:=Lh_ (show kindB d=false by unfold kindB;rw [if_pos H4.out,h1];rfl);clear h1;go_wp2;go_ret;exact ⟨ret_int (by rw [checkD_eq];simp [HR.out,HN.out,HK.out]),HBw1.out⟩
               | true =>
                have H1:=Lh_ h1;clear h1;go_wp2_with fail;refine (RInterface_any d.orig _ HD.out.2.2.2.1).mono ?_;rintro e w' ⟨rfl,rfl⟩;cases h2:ifaceB d.orig with
                | false =>
                 have HK:=Lh_ (show kindB d=false by unfold kindB;rw [if_pos H4.out,H1.out,h2];rfl);clear h2;go_wp2;go_ret;exact ⟨ret_int (by rw [checkD_eq];simp [HR.out,HN.out,HK.out]),HBw1.out⟩
                | true =>
                 have HK:=Lh_ (show kindB d=true by unfold kindB;rw [if_pos H4.out,H1.out,h2];rfl);clear h2;go_wp2_with fail;refine (RNode_any d A c _ (by have:=named_orig HN.out;omega) (HOK.out.next HBw1.out)).mono ?_;rintro e w10 ⟨rfl,hbw10⟩;clear cp0 cp1 cp2 cp3 cp4 cp5 cp6 cp7 cp8 cp9;have HBw10:=tb_ HBw1 hbw10;have pw10:=kb_ HXpw1 hbw10;clear hbw10;obtain ⟨cp0,cp1,cp2,cp3,cp4,cp5,cp6,cp7,cp8,cp9⟩:=s10_ pw10.out.1;cases h9:(nodeD d).isSome with
                 | false =>
                  have HKN:=Lh_ ((node_kind d).symm.trans h9);have HZ:=Lh_ (linkD_no h9);clear h9;by_cases h6:d.num=0
                  ·
                   have e6:(d.num != 0)=false:=by simp [h6]
                   have e6b:(d.num == 0)=true:=beq_iff_eq.2 h6;have HU:=Lh_ (show numberB d=true by unfold numberB;rw [if_neg (by rw [HKN.out];decide)];exact decide_eq_true h6);clear h6;by_cases h7:d.attrs.length≤24
                   ·
                    have i7:¬ (24:Int)<(d.attrs.length:Int):=by omega
                    have HL:=Lh_ h7;clear h7;go_wp2_with fail;have HXC:=Lh_ (HX.out.keep (HBw10.out.mono HB.out));go_loop [5] (fun i=>∃ k:Nat,k≤d.attrs.length∧i=.int .i64 k∧Hid ((d.attrs.take k).all attrB=true)) (fun i=>d.attrs.length - (intOf i).toNat)
                    case atStart=>exact ⟨0,Nat.zero_le _,rfl,rfl⟩
                    case round =>
                     obtain ⟨k,hk,rfl,HA⟩:=hrel;by_cases hlt:k<d.attrs.length
                     ·
                      obtain ⟨b3,o3,rfl,_,hsz,cx0,cx1⟩:=HXC.out.attr hlt;have hxk:d.attrs[k]? = some d.attrs[k]:=List.getElem?_eq_getElem hlt;obtain ⟨x,hx⟩:∃ x,d.attrs[k]'hlt=x:=⟨_,rfl⟩;rw [hx] at cx0 cx1 hsz hxk;have HXK:=Lh_ hxk;have HSZ:=Lh_ hsz;clear hx hxk hsz;have i1:(k:Int)<(d.attrs.length:Int):=by omega
                      go_wp2_with fail;refine (RValid_any x.name _ HSZ.out.1).mono ?_;rintro e w' ⟨rfl,rfl⟩;cases h1:validB x.name with
                      | false =>
                       have H1:=Lh_ h1;clear h1;have HA2:=Lh_ (show attrsB d.attrs=false by unfold attrsB;rw [all_stop (p:=attrB) HXK.out (by unfold attrB;simp [H1.out]),Bool.and_false]);go_wp2;go_ret;exact ⟨ret_int (by rw [checkD_eq];simp [HR.out,HN.out,HK.out,HU.out,HL.out,HA2.out]),HBw10.out⟩
                      | true =>
                       have H1:=Lh_ h1;clear h1;go_wp2_with fail;refine (RText_any x.value _ HSZ.out.2).mono ?_;rintro e w' ⟨rfl,rfl⟩;cases h2:textB x.value with
                       | false =>
                        have H2:=Lh_ h2;clear h2;have HA2:=Lh_ (show attrsB d.attrs=false by unfold attrsB;rw [all_stop (p:=attrB) HXK.out (by unfold attrB;simp [H1.out,H2.out]),Bool.and_false]);go_wp2;go_ret;exact ⟨ret_int (by rw [checkD_eq];simp [HR.out,HN.out,HK.out,HU.out,HL.out,HA2.out]),HBw10.out⟩
                       | true =>
                        have H2:=Lh_ h2;clear h2;cases h3:x.value.toList.isEmpty with
                        | true =>
                         have h3b:x.value.toList=[]:=List.isEmpty_iff.1 h3;have H3:=Lh_ h3;have HA2:=Lh_ (show attrsB d.attrs=false by unfold attrsB;rw [all_stop (p:=attrB) HXK.out (by unfold attrB;simp [H1.out,H2.out,H3.out]),Bool.and_false]);go_wp2;go_ret;exact ⟨ret_int (by rw [checkD_eq];simp [HR.out,HN.out,HK.out,HU.out,HL.out,HA2.out]),HBw10.out⟩
                        | false =>
                         have h3b:¬ x.value.toList=[]:=fun h=>by rw [h] at h3;cases h3
                         have H3:=Lh_ h3;go_wp2;go_round
                         case rel=>exact ⟨k+1,by omega,by go_num,all_step HA.out HXK.out (by unfold attrB;simp [H1.out,H2.out,H3.out])⟩
                         case measure=>simp [intOf];omega
                     ·
                      have i1:¬ (k:Int)<(d.attrs.length:Int):=by omega
                      have HALL:=Lh_ (all_end HA.out (by omega));go_wp2_with fail;refine (RSorted_any A c d.attrs _ B HXC.out).mono ?_;rintro e w11 ⟨rfl,hbw11⟩;clear cp0 cp1 cp2 cp3 cp4 cp5 cp6 cp7 cp8 cp9;have HBw11:=tb_ HBw10 hbw11;have pw11:=kb_ pw10 hbw11;clear hbw11;obtain ⟨cp0,cp1,cp2,cp3,cp4,cp5,cp6,cp7,cp8,cp9⟩:=s10_ pw11.out.1;cases hs:sortedA d.attrs with
                      | false =>
                       have HA2:=Lh_ (show attrsB d.attrs=false by unfold attrsB;rw [hs];rfl);clear hs;go_wp2;go_ret;exact ⟨ret_int (by rw [checkD_eq];simp [HR.out,HN.out,HK.out,HU.out,HL.out,HA2.out]),HBw11.out⟩
                      | true =>
                       have HA2:=Lh_ (show attrsB d.attrs=true by unfold attrsB;rw [hs,HALL.out];rfl);clear hs;go_wp2;go_ret;exact ⟨ret_int (by rw [checkD_eq];simp [HR.out,HN.out,HK.out,HU.out,HL.out,HA2.out,HZ.out]),HBw11.out⟩
                   ·
                    have i7:(24:Int)<(d.attrs.length:Int):=by omega
                    have HL:=Lh_ h7;clear h7;go_wp2;go_ret;exact ⟨ret_int (by rw [checkD_eq];simp [HR.out,HN.out,HK.out,HU.out,HL.out]),HBw10.out⟩
                  ·
                   have e6:(d.num != 0)=true:=by simp [h6]
                   have e6b:(d.num == 0)=false:=beq_eq_false_iff_ne.2 h6;have HU:=Lh_ (show numberB d=false by unfold numberB;rw [if_neg (by rw [HKN.out];decide)];exact decide_eq_false h6);clear h6;go_wp2;go_ret;exact ⟨ret_int (by rw [checkD_eq];simp [HR.out,HN.out,HK.out,HU.out]),HBw10.out⟩
                 | true =>
                  have HKN:=Lh_ ((node_kind d).symm.trans h9);have HZ:=Lh_ (linkD_yes h9);clear h9;by_cases h:d.num<1
                  ·
                   have eHU1:decide (d.num<1)=true:=decide_eq_true h;have HU:=Lh_ (show numberB d=false by unfold numberB withinB;rw [if_pos HKN.out];rw [Bool.eq_false_iff];intro hc;simp only [Bool.and_eq_true,decide_eq_true_eq] at hc;omega);clear h;go_wp2;go_ret;exact ⟨ret_int (by rw [checkD_eq];simp [HR.out,HN.out,HK.out,HU.out]),HBw10.out⟩
                  ·
                   have eHU1:decide (d.num<1)=false:=decide_eq_false h;have HU1:=Lh_ h;by_cases h:1073741824<d.num
                   ·
                    have eHU2:decide (1073741824<d.num)=true:=decide_eq_true h;have HU:=Lh_ (show numberB d=false by unfold numberB withinB;rw [if_pos HKN.out];rw [Bool.eq_false_iff];intro hc;simp only [Bool.and_eq_true,decide_eq_true_eq] at hc;omega);clear h;go_wp2;go_ret;exact ⟨ret_int (by rw [checkD_eq];simp [HR.out,HN.out,HK.out,HU.out]),HBw10.out⟩
                   ·
                    have eHU2:decide (1073741824<d.num)=false:=decide_eq_false h;have HU2:=Lh_ h;have HU:=Lh_ (show numberB d=true by have a1:=HU1.out;have a2:=HU2.out;unfold numberB withinB;rw [if_pos HKN.out];simp only [Bool.and_eq_true,decide_eq_true_eq];omega);by_cases h7:d.attrs.length≤24
                    ·
                     have i7:¬ (24:Int)<(d.attrs.length:Int):=by omega
                     have HL:=Lh_ h7;clear h7;go_wp2_with fail;have HXC:=Lh_ (HX.out.keep (HBw10.out.mono HB.out));go_loop [5] (fun i=>∃ k:Nat,k≤d.attrs.length∧i=.int .i64 k∧Hid ((d.attrs.take k).all attrB=true)) (fun i=>d.attrs.length - (intOf i).toNat)
                     case atStart=>exact ⟨0,Nat.zero_le _,rfl,rfl⟩
                     case round =>
                      obtain ⟨k,hk,rfl,HA⟩:=hrel;by_cases hlt:k<d.attrs.length
                      ·
                       obtain ⟨b3,o3,rfl,_,hsz,cx0,cx1⟩:=HXC.out.attr hlt;have hxk:d.attrs[k]? = some d.attrs[k]:=List.getElem?_eq_getElem hlt;obtain ⟨x,hx⟩:∃ x,d.attrs[k]'hlt=x:=⟨_,rfl⟩;rw [hx] at cx0 cx1 hsz hxk;have HXK:=Lh_ hxk;have HSZ:=Lh_ hsz;clear hx hxk hsz;have i1:(k:Int)<(d.attrs.length:Int):=by omega
                       go_wp2_with fail;refine (RValid_any x.name _ HSZ.out.1).mono ?_;rintro e w' ⟨rfl,rfl⟩;cases h1:validB x.name with
                       | false =>
                        have H1:=Lh_ h1;clear h1;have HA2:=Lh_ (show attrsB d.attrs=false by unfold attrsB;rw [all_stop (p:=attrB) HXK.out (by unfold attrB;simp [H1.out]),Bool.and_false]);go_wp2;go_ret;exact ⟨ret_int (by rw [checkD_eq];simp [HR.out,HN.out,HK.out,HU.out,HL.out,HA2.out]),HBw10.out⟩
                       | true =>
                        have H1:=Lh_ h1;clear h1;go_wp2_with fail;refine (RText_any x.value _ HSZ.out.2).mono ?_;rintro e w' ⟨rfl,rfl⟩;cases h2:textB x.value with
                        | false =>
                         have H2:=Lh_ h2;clear h2;have HA2:=Lh_ (show attrsB d.attrs=false by unfold attrsB;rw [all_stop (p:=attrB) HXK.out (by unfold attrB;simp [H1.out,H2.out]),Bool.and_false]);go_wp2;go_ret;exact ⟨ret_int (by rw [checkD_eq];simp [HR.out,HN.out,HK.out,HU.out,HL.out,HA2.out]),HBw10.out⟩
                        | true =>
                         have H2:=Lh_ h2;clear h2;cases h3:x.value.toList.isEmpty with
                         | true =>
                          have h3b:x.value.toList=[]:=List.isEmpty_iff.1 h3;have H3:=Lh_ h3;have HA2:=Lh_ (show attrsB d.attrs=false by unfold attrsB;rw [all_stop (p:=attrB) HXK.out (by unfold attrB;simp [H1.out,H2.out,H3.out]),Bool.and_false]);go_wp2;go_ret;exact ⟨ret_int (by rw [checkD_eq];simp [HR.out,HN.out,HK.out,HU.out,HL.out,HA2.out]),HBw10.out⟩
                         | false =>
                          have h3b:¬ x.value.toList=[]:=fun h=>by rw [h] at h3;cases h3
                          have H3:=Lh_ h3;go_wp2;go_round
                          case rel=>exact ⟨k+1,by omega,by go_num,all_step HA.out HXK.out (by unfold attrB;simp [H1.out,H2.out,H3.out])⟩
                          case measure=>simp [intOf];omega
                      ·
                       have i1:¬ (k:Int)<(d.attrs.length:Int):=by omega
                       have HALL:=Lh_ (all_end HA.out (by omega));go_wp2_with fail;refine (RSorted_any A c d.attrs _ B HXC.out).mono ?_;rintro e w12 ⟨rfl,hbw12⟩;clear cp0 cp1 cp2 cp3 cp4 cp5 cp6 cp7 cp8 cp9;have HBw12:=tb_ HBw10 hbw12;have pw12:=kb_ pw10 hbw12;clear hbw12;obtain ⟨cp0,cp1,cp2,cp3,cp4,cp5,cp6,cp7,cp8,cp9⟩:=s10_ pw12.out.1;cases hs:sortedA d.attrs with
                       | false =>
                        have HA2:=Lh_ (show attrsB d.attrs=false by unfold attrsB;rw [hs];rfl);clear hs;go_wp2;go_ret;exact ⟨ret_int (by rw [checkD_eq];simp [HR.out,HN.out,HK.out,HU.out,HL.out,HA2.out]),HBw12.out⟩
                       | true =>
                        have HA2:=Lh_ (show attrsB d.attrs=true by unfold attrsB;rw [hs,HALL.out];rfl);clear hs;go_wp2_with fail;refine (RLink_any (nodeV d) _ (by have:=node_small (named_orig HN.out);omega) (HOK.out.next HBw12.out)).mono ?_;rintro e w13 ⟨rfl,hbw13⟩;clear cp0 cp1 cp2 cp3 cp4 cp5 cp6 cp7 cp8 cp9;have HBw13:=tb_ HBw12 hbw13;have pw13:=kb_ pw12 hbw13;clear hbw13;obtain ⟨cp0,cp1,cp2,cp3,cp4,cp5,cp6,cp7,cp8,cp9⟩:=s10_ pw13.out.1;cases h10:linkB (nodeV d) with
                        | false =>
                         have HZ2:=Lh_ (HZ.out.trans h10);clear h10;go_wp2;go_ret;exact ⟨ret_int (by rw [checkD_eq];simp [HR.out,HN.out,HK.out,HU.out,HL.out,HA2.out,HZ2.out]),HBw13.out⟩
                        | true =>
                         have HZ2:=Lh_ (HZ.out.trans h10);clear h10;go_wp2;go_ret;exact ⟨ret_int (by rw [checkD_eq];simp [HR.out,HN.out,HK.out,HU.out,HL.out,HA2.out,HZ2.out]),HBw13.out⟩
                    ·
                     have i7:(24:Int)<(d.attrs.length:Int):=by omega
                     have HL:=Lh_ h7;clear h7;go_wp2;go_ret;exact ⟨ret_int (by rw [checkD_eq];simp [HR.out,HN.out,HK.out,HU.out,HL.out]),HBw10.out⟩
              ·
               have e4:(d.kind == 4)=false:=beq_eq_false_iff_ne.2 h4;have e4n:(d.kind != 4)=true:=by simp [h4]
               have H4:=Lh_ h4;by_cases h5:d.nm=d.orig
               ·
                have e5:(d.nm.toList == d.orig.toList)=true:=by rw [ba_beq];exact decide_eq_true h5
                have HK:=Lh_ (show kindB d=true by have a1:=HK1.out;have a2:=HK2.out;unfold kindB;rw [if_neg h4,decide_eq_true h5,decide_eq_true (by omega)];rfl);clear h4 h5;go_wp2_with fail;refine (RNode_any d A c _ (by have:=named_orig HN.out;omega) (HOK.out.next HBw1.out)).mono ?_;rintro e w14 ⟨rfl,hbw14⟩;clear cp0 cp1 cp2 cp3 cp4 cp5 cp6 cp7 cp8 cp9;have HBw14:=tb_ HBw1 hbw14;have pw14:=kb_ HXpw1 hbw14;clear hbw14;obtain ⟨cp0,cp1,cp2,cp3,cp4,cp5,cp6,cp7,cp8,cp9⟩:=s10_ pw14.out.1;cases h9:(nodeD d).isSome with
                | false =>
                 have HKN:=Lh_ ((node_kind d).symm.trans h9);have HZ:=Lh_ (linkD_no h9);clear h9;by_cases h6:d.num=0
                 ·
                  have e6:(d.num != 0)=false:=by simp [h6]
                  have e6b:(d.num == 0)=true:=beq_iff_eq.2 h6;have HU:=Lh_ (show numberB d=true by unfold numberB;rw [if_neg (by rw [HKN.out];decide)];exact decide_eq_true h6);clear h6;by_cases h7:d.attrs.length≤24
                  ·
                   have i7:¬ (24:Int)<(d.attrs.length:Int):=by omega
                   have HL:=Lh_ h7;clear h7;go_wp2_with fail;have HXC:=Lh_ (HX.out.keep (HBw14.out.mono HB.out));go_loop [5] (fun i=>∃ k:Nat,k≤d.attrs.length∧i=.int .i64 k∧Hid ((d.attrs.take k).all attrB=true)) (fun i=>d.attrs.length - (intOf i).toNat)
                   case atStart=>exact ⟨0,Nat.zero_le _,rfl,rfl⟩
                   case round =>
                    obtain ⟨k,hk,rfl,HA⟩:=hrel;by_cases hlt:k<d.attrs.length
                    ·
                     obtain ⟨b3,o3,rfl,_,hsz,cx0,cx1⟩:=HXC.out.attr hlt;have hxk:d.attrs[k]? = some d.attrs[k]:=List.getElem?_eq_getElem hlt;obtain ⟨x,hx⟩:∃ x,d.attrs[k]'hlt=x:=⟨_,rfl⟩;rw [hx] at cx0 cx1 hsz hxk;have HXK:=Lh_ hxk;have HSZ:=Lh_ hsz;clear hx hxk hsz;have i1:(k:Int)<(d.attrs.length:Int):=by omega
                     go_wp2_with fail;refine (RValid_any x.name _ HSZ.out.1).mono ?_;rintro e w' ⟨rfl,rfl⟩;cases h1:validB x.name with
                     | false =>
                      have H1:=Lh_ h1;clear h1;have HA2:=Lh_ (show attrsB d.attrs=false by unfold attrsB;rw [all_stop (p:=attrB) HXK.out (by unfold attrB;simp [H1.out]),Bool.and_false]);go_wp2;go_ret;exact ⟨ret_int (by rw [checkD_eq];simp [HR.out,HN.out,HK.out,HU.out,HL.out,HA2.out]),HBw14.out⟩
                     | true =>
                      have H1:=Lh_ h1;clear h1;go_wp2_with fail;refine (RText_any x.value _ HSZ.out.2).mono ?_;rintro e w' ⟨rfl,rfl⟩;cases h2:textB x.value with
                      | false =>
                       have H2:=Lh_ h2;clear h2;have HA2:=Lh_ (show attrsB d.attrs=false by unfold attrsB;rw [all_stop (p:=attrB) HXK.out (by unfold attrB;simp [H1.out,H2.out]),Bool.and_false]);go_wp2;go_ret;exact ⟨ret_int (by rw [checkD_eq];simp [HR.out,HN.out,HK.out,HU.out,HL.out,HA2.out]),HBw14.out⟩
                      | true =>
                       have H2:=Lh_ h2;clear h2;cases h3:x.value.toList.isEmpty with
                       | true =>
                        have h3b:x.value.toList=[]:=List.isEmpty_iff.1 h3;have H3:=Lh_ h3;have HA2:=Lh_ (show attrsB d.attrs=false by unfold attrsB;rw [all_stop (p:=attrB) HXK.out (by unfold attrB;simp [H1.out,H2.out,H3.out]),Bool.and_false]);go_wp2;go_ret;exact ⟨ret_int (by rw [checkD_eq];simp [HR.out,HN.out,HK.out,HU.out,HL.out,HA2.out]),HBw14.out⟩
                       | false =>
                        have h3b:¬ x.value.toList=[]:=fun h=>by rw [h] at h3;cases h3
                        have H3:=Lh_ h3;go_wp2;go_round
                        case rel=>exact ⟨k+1,by omega,by go_num,all_step HA.out HXK.out (by unfold attrB;simp [H1.out,H2.out,H3.out])⟩
                        case measure=>simp [intOf];omega
                    ·
                     have i1:¬ (k:Int)<(d.attrs.length:Int):=by omega
                     have HALL:=Lh_ (all_end HA.out (by omega));go_wp2_with fail;refine (RSorted_any A c d.attrs _ B HXC.out).mono ?_;rintro e w15 ⟨rfl,hbw15⟩;clear cp0 cp1 cp2 cp3 cp4 cp5 cp6 cp7 cp8 cp9;have HBw15:=tb_ HBw14 hbw15;have pw15:=kb_ pw14 hbw15;clear hbw15;obtain ⟨cp0,cp1,cp2,cp3,cp4,cp5,cp6,cp7,cp8,cp9⟩:=s10_ pw15.out.1;cases hs:sortedA d.attrs with
                     | false =>
                      have HA2:=Lh_ (show attrsB d.attrs=false by unfold attrsB;rw [hs];rfl);clear hs;go_wp2;go_ret;exact ⟨ret_int (by rw [checkD_eq];simp [HR.out,HN.out,HK.out,HU.out,HL.out,HA2.out]),HBw15.out⟩
                     | true =>
                      have HA2:=Lh_ (show attrsB d.attrs=true by unfold attrsB;rw [hs,HALL.out];rfl);clear hs;go_wp2;go_ret;exact ⟨ret_int (by rw [checkD_eq];simp [HR.out,HN.out,HK.out,HU.out,HL.out,HA2.out,HZ.out]),HBw15.out⟩
                  ·
                   have i7:(24:Int)<(d.attrs.length:Int):=by omega
                   have HL:=Lh_ h7;clear h7;go_wp2;go_ret;exact ⟨ret_int (by rw [checkD_eq];simp [HR.out,HN.out,HK.out,HU.out,HL.out]),HBw14.out⟩
                 ·
                  have e6:(d.num != 0)=true:=by simp [h6]
                  have e6b:(d.num == 0)=false:=beq_eq_false_iff_ne.2 h6;have HU:=Lh_ (show numberB d=false by unfold numberB;rw [if_neg (by rw [HKN.out];decide)];exact decide_eq_false h6);clear h6;go_wp2;go_ret;exact ⟨ret_int (by rw [checkD_eq];simp [HR.out,HN.out,HK.out,HU.out]),HBw14.out⟩
                | true =>
                 have HKN:=Lh_ ((node_kind d).symm.trans h9);have HZ:=Lh_ (linkD_yes h9);clear h9;by_cases h:d.num<1
                 ·
                  have eHU1:decide (d.num<1)=true:=decide_eq_true h;have HU:=Lh_ (show numberB d=false by unfold numberB withinB;rw [if_pos HKN.out];rw [Bool.eq_false_iff];intro hc;simp only [Bool.and_eq_true,decide_eq_true_eq] at hc;omega);clear h;go_wp2;go_ret;exact ⟨ret_int (by rw [checkD_eq];simp [HR.out,HN.out,HK.out,HU.out]),HBw14.out⟩
                 ·
                  have eHU1:decide (d.num<1)=false:=decide_eq_false h;have HU1:=Lh_ h;by_cases h:1073741824<d.num
                  ·
                   have eHU2:decide (1073741824<d.num)=true:=decide_eq_true h;have HU:=Lh_ (show numberB d=false by unfold numberB withinB;rw [if_pos HKN.out];rw [Bool.eq_false_iff];intro hc;simp only [Bool.and_eq_true,decide_eq_true_eq] at hc;omega);clear h;go_wp2;go_ret;exact ⟨ret_int (by rw [checkD_eq];simp [HR.out,HN.out,HK.out,HU.out]),HBw14.out⟩
                  ·
                   have eHU2:decide (1073741824<d.num)=false:=decide_eq_false h;have HU2:=Lh_ h;have HU:=Lh_ (show numberB d=true by have a1:=HU1.out;have a2:=HU2.out;unfold numberB withinB;rw [if_pos HKN.out];simp only [Bool.and_eq_true,decide_eq_true_eq];omega);by_cases h7:d.attrs.length≤24
                   ·
                    have i7:¬ (24:Int)<(d.attrs.length:Int):=by omega
                    have HL:=Lh_ h7;clear h7;go_wp2_with fail;have HXC:=Lh_ (HX.out.keep (HBw14.out.mono HB.out));go_loop [5] (fun i=>∃ k:Nat,k≤d.attrs.length∧i=.int .i64 k∧Hid ((d.attrs.take k).all attrB=true)) (fun i=>d.attrs.length - (intOf i).toNat)
                    case atStart=>exact ⟨0,Nat.zero_le _,rfl,rfl⟩
                    case round =>
                     obtain ⟨k,hk,rfl,HA⟩:=hrel;by_cases hlt:k<d.attrs.length
                     ·
                      obtain ⟨b3,o3,rfl,_,hsz,cx0,cx1⟩:=HXC.out.attr hlt;have hxk:d.attrs[k]? = some d.attrs[k]:=List.getElem?_eq_getElem hlt;obtain ⟨x,hx⟩:∃ x,d.attrs[k]'hlt=x:=⟨_,rfl⟩;rw [hx] at cx0 cx1 hsz hxk;have HXK:=Lh_ hxk;have HSZ:=Lh_ hsz;clear hx hxk hsz;have i1:(k:Int)<(d.attrs.length:Int):=by omega
                      go_wp2_with fail;refine (RValid_any x.name _ HSZ.out.1).mono ?_;rintro e w' ⟨rfl,rfl⟩;cases h1:validB x.name with
                      | false =>
                       have H1:=Lh_ h1;clear h1;have HA2:=Lh_ (show attrsB d.attrs=false by unfold attrsB;rw [all_stop (p:=attrB) HXK.out (by unfold attrB;simp [H1.out]),Bool.and_false]);go_wp2;go_ret;exact ⟨ret_int (by rw [checkD_eq];simp [HR.out,HN.out,HK.out,HU.out,HL.out,HA2.out]),HBw14.out⟩
                      | true =>
                       have H1:=Lh_ h1;clear h1;go_wp2_with fail;refine (RText_any x.value _ HSZ.out.2).mono ?_;rintro e w' ⟨rfl,rfl⟩;cases h2:textB x.value with
                       | false =>
                        have H2:=Lh_ h2;clear h2;have HA2:=Lh_ (show attrsB d.attrs=false by unfold attrsB;rw [all_stop (p:=attrB) HXK.out (by unfold attrB;simp [H1.out,H2.out]),Bool.and_false]);go_wp2;go_ret;exact ⟨ret_int (by rw [checkD_eq];simp [HR.out,HN.out,HK.out,HU.out,HL.out,HA2.out]),HBw14.out⟩
                       | true =>
                        have H2:=Lh_ h2;clear h2;cases h3:x.value.toList.isEmpty with
                        | true =>
                         have h3b:x.value.toList=[]:=List.isEmpty_iff.1 h3;have H3:=Lh_ h3;have HA2:=Lh_ (show attrsB d.attrs=false by unfold attrsB;rw [all_stop (p:=attrB) HXK.out (by unfold attrB;simp [H1.out,H2.out,H3.out]),Bool.and_false]);go_wp2;go_ret;exact ⟨ret_int (by rw [checkD_eq];simp [HR.out,HN.out,HK.out,HU.out,HL.out,HA2.out]),HBw14.out⟩
                        | false =>
                         have h3b:¬ x.value.toList=[]:=fun h=>by rw [h] at h3;cases h3
                         have H3:=Lh_ h3;go_wp2;go_round
                         case rel=>exact ⟨k+1,by omega,by go_num,all_step HA.out HXK.out (by unfold attrB;simp [H1.out,H2.out,H3.out])⟩
                         case measure=>simp [intOf];omega
                     ·
                      have i1:¬ (k:Int)<(d.attrs.length:Int):=by omega
                      have HALL:=Lh_ (all_end HA.out (by omega));go_wp2_with fail;refine (RSorted_any A c d.attrs _ B HXC.out).mono ?_;rintro e w16 ⟨rfl,hbw16⟩;clear cp0 cp1 cp2 cp3 cp4 cp5 cp6 cp7 cp8 cp9;have HBw16:=tb_ HBw14 hbw16;have pw16:=kb_ pw14 hbw16;clear hbw16;obtain ⟨cp0,cp1,cp2,cp3,cp4,cp5,cp6,cp7,cp8,cp9⟩:=s10_ pw16.out.1;cases hs:sortedA d.attrs with
                      | false =>
                       have HA2:=Lh_ (show attrsB d.attrs=false by unfold attrsB;rw [hs];rfl);clear hs;go_wp2;go_ret;exact ⟨ret_int (by rw [checkD_eq];simp [HR.out,HN.out,HK.out,HU.out,HL.out,HA2.out]),HBw16.out⟩
                      | true =>
                       have HA2:=Lh_ (show attrsB d.attrs=true by unfold attrsB;rw [hs,HALL.out];rfl);clear hs;go_wp2_with fail;refine (RLink_any (nodeV d) _ (by have:=node_small (named_orig HN.out);omega) (HOK.out.next HBw16.out)).mono ?_;rintro e w17 ⟨rfl,hbw17⟩;clear cp0 cp1 cp2 cp3 cp4 cp5 cp6 cp7 cp8 cp9;have HBw17:=tb_ HBw16 hbw17;have pw17:=kb_ pw16 hbw17;clear hbw17;obtain ⟨cp0,cp1,cp2,cp3,cp4,cp5,cp6,cp7,cp8,cp9⟩:=s10_ pw17.out.1;cases h10:linkB (nodeV d) with
                       | false =>
                        have HZ2:=Lh_ (HZ.out.trans h10);clear h10;go_wp2;go_ret;exact ⟨ret_int (by rw [checkD_eq];simp [HR.out,HN.out,HK.out,HU.out,HL.out,HA2.out,HZ2.out]),HBw17.out⟩
                       | true =>
                        have HZ2:=Lh_ (HZ.out.trans h10);clear h10;go_wp2;go_ret;exact ⟨ret_int (by rw [checkD_eq];simp [HR.out,HN.out,HK.out,HU.out,HL.out,HA2.out,HZ2.out]),HBw17.out⟩
                   ·
                    have i7:(24:Int)<(d.attrs.length:Int):=by omega
                    have HL:=Lh_ h7;clear h7;go_wp2;go_ret;exact ⟨ret_int (by rw [checkD_eq];simp [HR.out,HN.out,HK.out,HU.out,HL.out]),HBw14.out⟩
               ·
                have e5:(d.nm.toList == d.orig.toList)=false:=by rw [ba_beq];exact decide_eq_false h5
                have HK:=Lh_ (show kindB d=false by unfold kindB;rw [if_neg h4,decide_eq_false h5,Bool.and_false]);clear h4 h5;go_wp2;go_ret;exact ⟨ret_int (by rw [checkD_eq];simp [HR.out,HN.out,HK.out]),HBw1.out⟩
end Go.Proofs.YtjgllhlilbchpaaGreatDoor
