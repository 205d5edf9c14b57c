/-
  The walks of layer 7: IDs,numbers within bounds.
-/
import Derived.Test.YtjgllhlilbchpaaGreatDoorQTK
import Derived.Test.YtjgllhlilbchpaaGreatDoorQA
import Derived.Test.YtjgllhlilbchpaaGreatDoorQSA
set_option linter.unusedSimpArgs false
set_option linter.unusedVariables false
namespace Go.Cold
open Go Go.RowKit
def idL:List UInt8:=upperL ++ lowerL ++ digitL ++ [95,46,45]
def idB (s:ByteArray):Bool:=!s.toList.isEmpty && (decide ((s.size:Int)≤16) && inB idL s)
theorem id_iff (x:UInt8):idL.contains x=decide ((65≤x.toNat∧x.toNat≤90)∨(97≤x.toNat∧x.toNat≤122)∨(48≤x.toNat∧x.toNat≤57)∨x.toNat=95∨x.toNat=46∨x.toNat=45):=by
  have h:∀ n:Fin 256,idL.contains (UInt8.ofNat n.val)=decide ((65≤n.val∧n.val≤90)∨(97≤n.val∧n.val≤122)∨(48≤n.val∧n.val≤57)∨n.val=95∨n.val=46∨n.val=45):=by decide +kernel
  have:=h ⟨x.toNat,UInt8.toNat_lt x⟩;simpa using this
end Go.Cold
namespace Go.Proofs.YtjgllhlilbchpaaGreatDoor
open Go.RowKit Go.Cold

theorem c7within_any (n high:Int) (w:World):Calls Tryz.prog 180 #[.int .i64 n,.int .i64 high] w fun e w'=>e=.returned (.bool (decide (1≤n) && decide (n≤high)))∧w=w':=by
  go_enter Tryz.func180,Tryz.ntmps180;by_cases h:1≤n
  · have h':decide (1≤n)=true:=by simpa using h
    rw [h'];go_wp2;go_ret;exact ⟨by simp,rfl⟩
  · have h':decide (1≤n)=false:=by simpa using h
    rw [h'];go_wp2;go_ret;exact ⟨by simp,rfl⟩

set_option maxRecDepth 100000 in
theorem isID_any (s:ByteArray) (w:World) (hs:s.size≤maxLen):Calls Tryz.prog 178 #[.string s] w fun e w'=>e=.returned (.bool (idB s))∧Below w.heap.size w w':=by
  unfold maxLen at hs;go_enter Tryz.func178,Tryz.ntmps178;go_wp2_with (with_reducible refine at_dst 6 ?_;go_must (refine wpList_conv_bytes rfl 9 88 5 _ rfl s rfl Tryz.underlying9 Tryz.underlying88 Tryz.underlying5 ?_);intro cap w3 hcap hrow hlt3 hb5);have HRow:=Lh_ hrow;clear hrow;go_loop [8] (fun i=>∃ k:Nat,k≤s.size∧i=.int .i64 k∧Hid ((s.data.toList.take k).all idL.contains=true)) (fun i=>s.size - (intOf i).toNat)
  case atStart=>exact ⟨0,Nat.zero_le _,rfl,rfl⟩
  case round =>
    obtain ⟨k,hk,rfl,HA⟩:=hrel;by_cases hlt:k<s.size
    · obtain ⟨x,hx⟩:∃ x:UInt8,s[k]'hlt=x:=⟨_,rfl⟩
      have hxl:s.data.toList[k]? = some x:=by rw [← hx];exact Lib.data_getElem? s k hlt
      obtain ⟨hbc,hbf⟩:=HRow.out k x hxl;have HX:=Lh_ hxl;clear hxl hx;have i1:(k:Int)<(s.size:Int):=by omega
      cases hid:idL.contains x with
      | true =>
        have hid2:=hid;rw [id_iff] at hid2;have hid3:=of_decide_eq_true hid2;have HID:=Lh_ hid;clear hid hid2;have hcase:(65≤(x.toNat:Int)∧(x.toNat:Int)≤90)∨(97≤(x.toNat:Int)∧(x.toNat:Int)≤122)∨(48≤(x.toNat:Int)∧(x.toNat:Int)≤57)∨(x.toNat:Int)=95∨(x.toNat:Int)=46∨(x.toNat:Int)=45:=by omega
        have HCASE:=Lh_ hcase;clear hcase hid3;go_wp2;all_goals first
          | (go_round
             case rel=>exact ⟨k+1,by omega,by go_num,all_step HA.out HX.out HID.out⟩
             case measure=>simp [intOf];omega)
          | (exfalso;have hh:=HCASE.out;simp at *;omega)
      | false =>
        have hid2:=hid;rw [id_iff] at hid2;have hid3:=of_decide_eq_false hid2;have HID:=Lh_ hid;clear hid hid2;have hcase:¬ ((65≤(x.toNat:Int)∧(x.toNat:Int)≤90)∨(97≤(x.toNat:Int)∧(x.toNat:Int)≤122)∨(48≤(x.toNat:Int)∧(x.toNat:Int)≤57)∨(x.toNat:Int)=95∨(x.toNat:Int)=46∨(x.toNat:Int)=45):=by omega
        have HCASE:=Lh_ hcase;clear hcase hid3;go_wp2;all_goals first
          | (go_ret
             exact ⟨ret_bool (by rw [idB,show inB idL s=false from all_stop HX.out HID.out];simp),hb5⟩)
          | (exfalso;have hh:=HCASE.out;simp at *;omega)
    · have hall:inB idL s=true:=all_end HA.out (by rw [ba_size];omega)
      cases he:s.toList.isEmpty with
      | true =>
        have he':s.toList=[]:=by simpa using he
        have HE:=Lh_ he;clear he;go_wp2;go_ret;exact ⟨ret_bool (by rw [idB,HE.out];rfl),hb5⟩
      | false =>
        have he':¬ s.toList=[]:=by simpa using he
        have he2:(!s.toList.isEmpty)=true:=by rw [he];rfl
        have HALL:=Lh_ hall;clear hall;go_wp2;go_ret;exact ⟨ret_bool (by rw [idB,HALL.out,he];simp),hb5⟩
end Go.Proofs.YtjgllhlilbchpaaGreatDoor
namespace Go.Cold
open Go Go.RowKit
def c7withinB (n high:Int):Bool:=decide (1≤n) && decide (n≤high)
end Go.Cold
namespace Go.Proofs.YtjgllhlilbchpaaGreatDoor
open Go.RowKit Go.Cold

structure PredC (g:FuncId) (caps:Array Value) (w:World) (p:Cont→Bool):Prop where
 enters:∀ args w,(callFunc g args).run Tryz.prog w=.ok (.enter g args) w
 gives:∀ (x:Cont) (cs:List Value) (W:World),CRd W W.heap.size x cs→Below w.heap.size w W→Calls Tryz.prog g (#[.agg cs.toArray] ++ caps) W fun e W'=>e=.returned (.bool (p x))∧Below W.heap.size W W'

set_option maxRecDepth 10000 in
theorem IndexFuncC_any (A:Option Addr) (c:Nat) (xs:List Cont) (g:FuncId) (caps:Array Value) (p:Cont→Bool) (w:World) (hx:Sl w w.heap.size A c xs) (hp:PredC g caps w p) :
  Calls Tryz.prog 175 #[.slice A xs.length c,.func (.func g) #[] caps] w fun e w'=>e=.returned (.int .i64 (idxInt p xs))∧Below w.heap.size w w':=by
 have hc:=hx.1;have hc2:=hx.2.1;unfold maxLen at hc2;have hen:=hp.enters;have HP:=Lh_ hp;clear hp;have HSl:=Lh_ hx;clear hx;go_enter Tryz.func175,Tryz.ntmps175;go_wp2;go_loopw [8] (fun i wr=>∃ k:Nat,k≤xs.length∧i=.int .i64 k∧Hid ((xs.take k).all (fun x=>!p x)=true)∧Below w.heap.size w wr) (fun i _=>xs.length - (intOf i).toNat)
 case atStart=>exact ⟨0,Nat.zero_le _,rfl,rfl,Below.refl _ _⟩
 case round =>
  obtain ⟨k,hk,rfl,HA,hb⟩:=hrel;by_cases hlt:k<xs.length
  ·
   obtain ⟨b3,o3,rfl,hb3,cs,hcs,hcells⟩:=(HSl.out.next (Nat.le_refl _) hb).cont hlt
   have hxk:xs[k]? = some xs[k]:=List.getElem?_eq_getElem hlt;obtain ⟨x,hx⟩:∃ x,xs[k]=x:=⟨_,rfl⟩;rw [hx] at hcs hxk;have HX:=Lh_ hxk;clear hxk;have HXX:=Lh_ hx;clear hx;have i1:(k:Int)<(xs.length:Int):=by omega
   obtain ⟨kk2,i2,l2,s2,t2,e2,xs2⟩:=x;obtain ⟨A2,c2,rfl,-,-⟩:=CRd_iff.1 hcs;obtain ⟨c0,c1,c2',c3,c4,c5,c6⟩:=cells7 hcells;have hcall:=HP.out.gives (.mk kk2 i2 l2 s2 t2 e2 xs2) _ wr hcs hb;have HCALL:=Lh_ hcall;clear hcells hcs hcall;go_wp2_with fail;refine Calls.mono (R:=fun e W'=>e=.returned (.bool (p (.mk kk2 i2 l2 s2 t2 e2 xs2)))∧Below wr.heap.size wr W') ?_ ?_
   · first | exact HCALL.out | simpa [contCells] using HCALL.out
   rintro e w1 ⟨rfl,hb1⟩;have hb2:=hb.trans (hb1.mono hb.size);clear hb1 hb c0 c1 c2' c3 c4 c5 c6;cases hpx:p (.mk kk2 i2 l2 s2 t2 e2 xs2) with
   | true =>
    have HPX:=Lh_ hpx;clear hpx;go_wp2;go_ret;exact ⟨ret_int (idxInt_some hlt HA.out (by rw [HXX.out];exact HPX.out)).symm,hb2⟩
   | false =>
    have HPX:=Lh_ hpx;clear hpx;go_wp2;go_roundw
    case rel=>exact ⟨k+1,by omega,by go_num,all_step HA.out HX.out (by rw [HPX.out];rfl),hb2⟩
    case measure=>simp [intOf];omega
  ·
   go_wp2
   go_ret;exact ⟨ret_int (idxInt_none (all_end HA.out (by omega))).symm,hb⟩
theorem ContainsFuncC_any (A:Option Addr) (c:Nat) (xs:List Cont) (g:FuncId) (caps:Array Value) (p:Cont→Bool) (w:World) (hx:Sl w w.heap.size A c xs) (hp:PredC g caps w p) :
  Calls Tryz.prog 146 #[.slice A xs.length c,.func (.func g) #[] caps] w fun e w'=>e=.returned (.bool (xs.any p))∧Below w.heap.size w w':=by
 go_enter Tryz.func146,Tryz.ntmps146;go_wp2_with fail;refine (IndexFuncC_any A c xs g caps p w hx hp).mono ?_;rintro e w1 ⟨rfl,hb⟩;go_wp2;go_ret;exact ⟨ret_bool (idxInt_any p xs),hb⟩
end Go.Proofs.YtjgllhlilbchpaaGreatDoor
namespace Go.Cold
open Go Go.RowKit
def usedC:Cont→Cont
 | .mk k i l s t e _=>if k=1 then .mk k i l 0 0 0 [] else if k=2 then .mk k i ByteArray.empty s t e [] else if k=4 then .mk k i ByteArray.empty s t 0 [] else .mk k i ByteArray.empty 0 0 0 []
def condC:Cont→Bool
 | .mk k _ l s t e xs=>if k=1 then decide (xs.length=0) && (l.toList.isEmpty || idB l) else if k=2 then decide (xs.length=1) && ((c7withinB t 16 && c7withinB s t) && c7withinB e t)
   else if k=3 then decide (xs.length=1) else if k=4 then c7withinB xs.length 16 && (c7withinB t 16 && c7withinB s t) else if k=5 then c7withinB xs.length 16 else false
noncomputable def alikeB:Cont→Bool
 | .mk k i l s t e xs=>if k=0 then sameC (.mk k i l s t e xs) (.mk 0 ByteArray.empty ByteArray.empty 0 0 0 []) else condC (.mk k i l s t e xs) && (idB i && sameC (.mk k i l s t e []) (usedC (.mk k i l s t e xs)))
end Go.Cold
namespace Go.Proofs.YtjgllhlilbchpaaGreatDoor
open Go.RowKit Go.Cold

theorem slots_raw (kk:Int) (i l:ByteArray) (s t e:Int) (A:Option Addr) (n c:Nat) (w:World):Calls Tryz.prog 179 #[.agg #[.int .i64 kk,.string i,.string l,.int .i64 s,.int .i64 t,.int .i64 e,.slice A n c]] w fun e' w'=>e'=.returned (.bool (c7withinB t 16 && c7withinB s t))∧Below w.heap.size w w':=by
 obtain ⟨w0,hw0⟩:∃ w0,w.alloc (.cells #[.int .i64 kk,.string i,.string l,.int .i64 s,.int .i64 t,.int .i64 e,.slice A n c] 72)=w0:=⟨_,rfl⟩;obtain ⟨hb0,hg0,hbox⟩:=box7 hw0;obtain ⟨d0,d1,d2,d3,d4,d5,d6⟩:=hbox.zero;go_enter Tryz.func179,Tryz.ntmps179;go_wp2_with fail;refine (c7within_any t 16 _).mono ?_;rintro e' w' ⟨rfl,rfl⟩;cases h1:(decide (1≤t) && decide (t≤16)) with
 | true =>
  have H1:=Lh_ h1;clear h1;go_wp2_with fail;refine (c7within_any s t _).mono ?_;rintro e' w' ⟨rfl,rfl⟩;obtain ⟨z,hz⟩:∃ z,(decide (1≤s) && decide (s≤t))=z:=⟨_,rfl⟩;rw [hz];have HZ:=Lh_ hz;clear hz;go_wp2;go_ret;exact ⟨ret_bool (by rw [c7withinB,c7withinB,H1.out,HZ.out];rfl),hb0⟩
 | false =>
  have H1:=Lh_ h1;clear h1;go_wp2;go_ret;exact ⟨ret_bool (by rw [c7withinB,H1.out];rfl),hb0⟩

set_option maxRecDepth 100000 in
theorem alike_none (i l:ByteArray) (s t e:Int) (xs:List Cont) (cs:List Value) (w:World) (h:CRd w w.heap.size (.mk 0 i l s t e xs) cs):Calls Tryz.prog 149 #[.agg cs.toArray] w fun e' w'=>e'=.returned (.bool (alikeB (.mk 0 i l s t e xs)))∧Below w.heap.size w w':=by
 obtain ⟨A,c,rfl,hok,hsl⟩:=CRd_iff.1 h;have hzv:=(zero_of_info (P:=Tryz.prog) (t:=72) info_cont2).1;simp only [contCells];obtain ⟨w0,hw0⟩:∃ w0,w.alloc (.cells #[.int .i64 0,.string i,.string l,.int .i64 s,.int .i64 t,.int .i64 e,.slice A xs.length c] 72)=w0:=⟨_,rfl⟩;obtain ⟨hb0,hg0,hbox⟩:=box7 hw0;obtain ⟨d0,d1,d2,d3,d4,d5,d6⟩:=hbox.zero;have hz0:CRd w0 w0.heap.size (.mk 0 ByteArray.empty ByteArray.empty 0 0 0 []) (contCells 0 ByteArray.empty ByteArray.empty 0 0 0 none 0 0) :=
  CRd_iff.2 ⟨none,0,rfl,⟨by unfold okInt;omega,by unfold maxLen;decide,by unfold maxLen;decide,by unfold okInt;omega,by unfold okInt;omega,by unfold okInt;omega⟩,Sl.nil_⟩
 have hcall:=Same_any (.mk 0 i l s t e xs) (.mk 0 ByteArray.empty ByteArray.empty 0 0 0 []) _ _ w0 (CRd_more (by omega) _ _ (CRd_keep hb0 _ _ h)) hz0;have HCALL:=Lh_ hcall;clear hcall h hsl hok hbox hz0;go_enter Tryz.func149,Tryz.ntmps149;go_wp2_with fail;refine HCALL.out.mono ?_;rintro e' w2 ⟨rfl,hb2⟩;obtain ⟨z,hz⟩:∃ z,sameC (.mk 0 i l s t e xs) (.mk 0 ByteArray.empty ByteArray.empty 0 0 0 [])=z:=⟨_,rfl⟩;rw [hz];have HZ:=Lh_ hz;clear hz;go_wp2;go_ret;exact ⟨ret_bool (by rw [alikeB,if_pos rfl,HZ.out]),hb0.trans (hb2.mono (by omega))⟩

set_option maxRecDepth 100000 in
set_option maxHeartbeats 8000000 in
theorem alike_crypt (i l:ByteArray) (s t e:Int) (xs:List Cont) (cs:List Value) (w:World) (h:CRd w w.heap.size (.mk 3 i l s t e xs) cs):Calls Tryz.prog 149 #[.agg cs.toArray] w fun e' w'=>e'=.returned (.bool (alikeB (.mk 3 i l s t e xs)))∧Below w.heap.size w w':=by
 obtain ⟨A,c,rfl,hok,hsl⟩:=CRd_iff.1 h;have hzv:=(zero_of_info (P:=Tryz.prog) (t:=72) info_cont2).1;simp only [contCells];obtain ⟨w0,hw0⟩:∃ w0,w.alloc (.cells #[.int .i64 3,.string i,.string l,.int .i64 s,.int .i64 t,.int .i64 e,.slice A xs.length c] 72)=w0:=⟨_,rfl⟩;obtain ⟨hb0,hg0,hbox⟩:=box7 hw0;obtain ⟨d0,d1,d2,d3,d4,d5,d6⟩:=hbox.zero;have hfr0:∀ j,w0.frozen? ⟨w.heap.size,j,none⟩=false:=fun j=>box7f hw0 j
 obtain ⟨n,hn⟩:∃ n,xs.length=n:=⟨_,rfl⟩;have hnc:=hsl.1;have hcm:=hsl.2.1;have HC:=Lh_ (show condC (.mk 3 i l s t e xs)=condC (.mk 3 i l s t e xs) from rfl);have HOK:=Lh_ hok;have hi:=hok.2.1;have hl:=hok.2.2.1;have hrd:=CRd_more (show w.heap.size≤w0.heap.size by omega) _ _ (CRd_keep hb0 _ _ h);clear h hsl hbox hok;by_cases hlen:xs.length=1
 ·
  have hlenb:((xs.length:Int) != 1)=false:=by simp [hlen]
  have hcond:condC (.mk 3 i l s t e xs)=true:=by unfold condC;simp [hlen]
  have HCOND:=Lh_ hcond;clear hcond hlen hn;go_enter Tryz.func149,Tryz.ntmps149;go_wp2_with fail;go_region
  go_wp2_with fail;refine (isID_any i _ hi).mono ?_;rintro e' w6 ⟨rfl,hb6⟩;have hbw:Below w.heap.size w w6:=Below.trans (b:=_) (by (repeat first | refine Below.setCell ?_ (by first | (simp [hg0];done) | (simp [hg0];omega)) _ | refine Below.drew ?_ | refine Below.alloc ?_ (by first | (simp [hg0];done) | (simp [hg0];omega)) _);exact hb0) (hb6.mono (by first | (simp [hg0];done) | (simp [hg0];omega)));have q0:w6.cell? ⟨w.heap.size,0,none⟩=some (.int .i64 3):=(hb6.cell (p:=⟨w.heap.size,0,none⟩) (by first | (simp [hg0];done) | (simp [hg0];omega))).trans (by simp [go_sem, *]);have q1:w6.cell? ⟨w.heap.size,1,none⟩=some (.string i):=(hb6.cell (p:=⟨w.heap.size,1,none⟩) (by first | (simp [hg0];done) | (simp [hg0];omega))).trans (by simp [go_sem, *]);have q2:w6.cell? ⟨w.heap.size,2,none⟩=some (.string l):=(hb6.cell (p:=⟨w.heap.size,2,none⟩) (by first | (simp [hg0];done) | (simp [hg0];omega))).trans (by simp [go_sem, *]);have q3:w6.cell? ⟨w.heap.size,3,none⟩=some (.int .i64 s):=(hb6.cell (p:=⟨w.heap.size,3,none⟩) (by first | (simp [hg0];done) | (simp [hg0];omega))).trans (by simp [go_sem, *]);have q4:w6.cell? ⟨w.heap.size,4,none⟩=some (.int .i64 t):=(hb6.cell (p:=⟨w.heap.size,4,none⟩) (by first | (simp [hg0];done) | (simp [hg0];omega))).trans (by simp [go_sem, *]);have q5:w6.cell? ⟨w.heap.size,5,none⟩=some (.int .i64 e):=(hb6.cell (p:=⟨w.heap.size,5,none⟩) (by first | (simp [hg0];done) | (simp [hg0];omega))).trans (by simp [go_sem, *]);have q6:w6.cell? ⟨w.heap.size,6,none⟩=some (.slice none 0 0):=(hb6.cell (p:=⟨w.heap.size,6,none⟩) (by first | (simp [hg0];done) | (simp [hg0];omega))).trans (by simp [go_sem, *]);have r0:w6.cell? ⟨w.heap.size+1,0,none⟩=some (.int .i64 3):=(hb6.cell (p:=⟨w.heap.size+1,0,none⟩) (by first | (simp [hg0];done) | (simp [hg0];omega))).trans (by simp [go_sem, *]);have r1:w6.cell? ⟨w.heap.size+1,1,none⟩=some (.string i):=(hb6.cell (p:=⟨w.heap.size+1,1,none⟩) (by first | (simp [hg0];done) | (simp [hg0];omega))).trans (by simp [go_sem, *]);have r2:w6.cell? ⟨w.heap.size+1,2,none⟩=some (.string ByteArray.empty):=(hb6.cell (p:=⟨w.heap.size+1,2,none⟩) (by first | (simp [hg0];done) | (simp [hg0];omega))).trans (by simp [go_sem, *]);have r3:w6.cell? ⟨w.heap.size+1,3,none⟩=some (.int .i64 0):=(hb6.cell (p:=⟨w.heap.size+1,3,none⟩) (by first | (simp [hg0];done) | (simp [hg0];omega))).trans (by simp [go_sem, *]);have r4:w6.cell? ⟨w.heap.size+1,4,none⟩=some (.int .i64 0):=(hb6.cell (p:=⟨w.heap.size+1,4,none⟩) (by first | (simp [hg0];done) | (simp [hg0];omega))).trans (by simp [go_sem, *]);have r5:w6.cell? ⟨w.heap.size+1,5,none⟩=some (.int .i64 0):=(hb6.cell (p:=⟨w.heap.size+1,5,none⟩) (by first | (simp [hg0];done) | (simp [hg0];omega))).trans (by simp [go_sem, *])
  have r6:w6.cell? ⟨w.heap.size+1,6,none⟩=some (.slice none 0 0):=(hb6.cell (p:=⟨w.heap.size+1,6,none⟩) (by first | (simp [hg0];done) | (simp [hg0];omega))).trans (by simp [go_sem, *]);clear hb6 d0 d1 d2 d3 d4 d5 d6;cases hid:idB i with
  | false =>
   have HI:=Lh_ hid;clear hid;go_wp2;go_ret;exact ⟨ret_bool (by rw [alikeB,if_neg (by decide),HI.out];simp),hbw⟩
  | true =>
   have HI:=Lh_ hid;clear hid;have hcall:=Same_any (.mk 3 i l s t e []) (.mk 3 i ByteArray.empty 0 0 0 []) _ _ w6 (CRd_iff.2 ⟨none,0,rfl,HOK.out,Sl.nil_⟩) (CRd_iff.2 ⟨none,0,rfl,by have:=HOK.out;unfold okInt maxLen at *;simp at *;omega,Sl.nil_⟩);have HCALL:=Lh_ hcall;clear hcall;go_wp2_with fail;refine HCALL.out.mono ?_;rintro e' w7 ⟨rfl,hb7⟩;have hz:sameC (.mk 3 i l s t e []) (usedC (.mk 3 i l s t e xs))=sameC (.mk 3 i l s t e []) (.mk 3 i ByteArray.empty 0 0 0 []):=by rw [usedC];simp
   obtain ⟨z,hz2⟩:∃ z,sameC (.mk 3 i l s t e []) (.mk 3 i ByteArray.empty 0 0 0 [])=z:=⟨_,rfl⟩;rw [hz2] at hz ⊢;have HZ:=Lh_ hz;clear hz hz2;go_wp2;go_ret;exact ⟨ret_bool (by rw [alikeB,if_neg (by decide),HCOND.out,HI.out,HZ.out];simp),hbw.trans (hb7.mono hbw.size)⟩
 ·
  have hlenb:((xs.length:Int) != 1)=true:=by simp;omega
  have hcond:condC (.mk 3 i l s t e xs)=false:=by unfold condC;simp [hlen]
  have HCOND:=Lh_ hcond;clear hcond hlen hn;go_enter Tryz.func149,Tryz.ntmps149;go_wp2_with fail;go_region
  go_wp2;go_ret;exact ⟨ret_bool (by rw [alikeB,if_neg (by decide),HCOND.out];simp),(by (repeat first | refine Below.setCell ?_ (by first | (simp [hg0];done) | (simp [hg0];omega)) _ | refine Below.drew ?_ | refine Below.alloc ?_ (by first | (simp [hg0];done) | (simp [hg0];omega)) _);exact hb0)⟩
set_option maxRecDepth 100000 in
set_option maxHeartbeats 8000000 in
theorem alike_table (i l:ByteArray) (s t e:Int) (xs:List Cont) (cs:List Value) (w:World) (h:CRd w w.heap.size (.mk 5 i l s t e xs) cs):Calls Tryz.prog 149 #[.agg cs.toArray] w fun e' w'=>e'=.returned (.bool (alikeB (.mk 5 i l s t e xs)))∧Below w.heap.size w w':=by
 obtain ⟨A,c,rfl,hok,hsl⟩:=CRd_iff.1 h;have hzv:=(zero_of_info (P:=Tryz.prog) (t:=72) info_cont2).1;simp only [contCells];obtain ⟨w0,hw0⟩:∃ w0,w.alloc (.cells #[.int .i64 5,.string i,.string l,.int .i64 s,.int .i64 t,.int .i64 e,.slice A xs.length c] 72)=w0:=⟨_,rfl⟩;obtain ⟨hb0,hg0,hbox⟩:=box7 hw0;obtain ⟨d0,d1,d2,d3,d4,d5,d6⟩:=hbox.zero;have hfr0:∀ j,w0.frozen? ⟨w.heap.size,j,none⟩=false:=fun j=>box7f hw0 j
 have hnc:=hsl.1;have hcm:=hsl.2.1;have HC:=Lh_ (show condC (.mk 5 i l s t e xs)=condC (.mk 5 i l s t e xs) from rfl);have HOK:=Lh_ hok;have hi:=hok.2.1;have hl:=hok.2.2.1;have hrd:=CRd_more (show w.heap.size≤w0.heap.size by omega) _ _ (CRd_keep hb0 _ _ h);clear h hsl hbox hok;go_enter Tryz.func149,Tryz.ntmps149;go_wp2_with fail;go_region
 go_wp2_with fail;refine (c7within_any _ 16 _).mono ?_;rintro e' w' ⟨rfl,rfl⟩;cases hB:(decide (1≤(xs.length:Int)) && decide ((xs.length:Int)≤16)) with
 | true =>
  have hcond:condC (.mk 5 i l s t e xs)=true:=by unfold condC;simp only [c7withinB,hB];simp
  have HCOND:=Lh_ hcond;clear hcond hB;go_wp2_with fail;refine (isID_any i _ hi).mono ?_;rintro e' w6 ⟨rfl,hb6⟩;have hbwz:Below w.heap.size w w6:=Below.trans (b:=_) (by (repeat first | refine Below.setCell ?_ (by first | (simp [hg0];done) | (simp [hg0];omega) | (simp;omega)) _ | refine Below.drew ?_ | refine Below.alloc ?_ (by first | (simp [hg0];done) | (simp [hg0];omega) | (simp;omega)) _);exact hb0) (hb6.mono (by first | (simp [hg0];done) | (simp [hg0];omega) | (simp;omega)));have hsz:w.heap.size+2≤w6.heap.size:=Nat.le_trans (by first | (simp [hg0];done) | (simp [hg0];omega) | (simp;omega)) hb6.size;have qz0:w6.cell? ⟨w.heap.size,0,none⟩=some (.int .i64 5):=(hb6.cell (p:=⟨w.heap.size,0,none⟩) (by first | (simp [hg0];done) | (simp [hg0];omega) | (simp;omega))).trans (by simp [go_sem, *]);have qz1:w6.cell? ⟨w.heap.size,1,none⟩=some (.string i):=(hb6.cell (p:=⟨w.heap.size,1,none⟩) (by first | (simp [hg0];done) | (simp [hg0];omega) | (simp;omega))).trans (by simp [go_sem, *]);have qz2:w6.cell? ⟨w.heap.size,2,none⟩=some (.string l):=(hb6.cell (p:=⟨w.heap.size,2,none⟩) (by first | (simp [hg0];done) | (simp [hg0];omega) | (simp;omega))).trans (by simp [go_sem, *]);have qz3:w6.cell? ⟨w.heap.size,3,none⟩=some (.int .i64 s):=(hb6.cell (p:=⟨w.heap.size,3,none⟩) (by first | (simp [hg0];done) | (simp [hg0];omega) | (simp;omega))).trans (by simp [go_sem, *]);have qz4:w6.cell? ⟨w.heap.size,4,none⟩=some (.int .i64 t):=(hb6.cell (p:=⟨w.heap.size,4,none⟩) (by first | (simp [hg0];done) | (simp [hg0];omega) | (simp;omega))).trans (by simp [go_sem, *]);have qz5:w6.cell? ⟨w.heap.size,5,none⟩=some (.int .i64 e):=(hb6.cell (p:=⟨w.heap.size,5,none⟩) (by first | (simp [hg0];done) | (simp [hg0];omega) | (simp;omega))).trans (by simp [go_sem, *]);have qz6:w6.cell? ⟨w.heap.size,6,none⟩=some (.slice none 0 0):=(hb6.cell (p:=⟨w.heap.size,6,none⟩) (by first | (simp [hg0];done) | (simp [hg0];omega) | (simp;omega))).trans (by simp [go_sem, *]);have rz0:w6.cell? ⟨w.heap.size+1,0,none⟩=some (.int .i64 5):=(hb6.cell (p:=⟨w.heap.size+1,0,none⟩) (by first | (simp [hg0];done) | (simp [hg0];omega) | (simp;omega))).trans (by simp [go_sem, *]);have rz1:w6.cell? ⟨w.heap.size+1,1,none⟩=some (.string i):=(hb6.cell (p:=⟨w.heap.size+1,1,none⟩) (by first | (simp [hg0];done) | (simp [hg0];omega) | (simp;omega))).trans (by simp [go_sem, *]);have rz2:w6.cell? ⟨w.heap.size+1,2,none⟩=some (.string ByteArray.empty):=(hb6.cell (p:=⟨w.heap.size+1,2,none⟩) (by first | (simp [hg0];done) | (simp [hg0];omega) | (simp;omega))).trans (by simp [go_sem, *]);have rz3:w6.cell? ⟨w.heap.size+1,3,none⟩=some (.int .i64 0):=(hb6.cell (p:=⟨w.heap.size+1,3,none⟩) (by first | (simp [hg0];done) | (simp [hg0];omega) | (simp;omega))).trans (by simp [go_sem, *])
  have rz4:w6.cell? ⟨w.heap.size+1,4,none⟩=some (.int .i64 0):=(hb6.cell (p:=⟨w.heap.size+1,4,none⟩) (by first | (simp [hg0];done) | (simp [hg0];omega) | (simp;omega))).trans (by simp [go_sem, *]);have rz5:w6.cell? ⟨w.heap.size+1,5,none⟩=some (.int .i64 0):=(hb6.cell (p:=⟨w.heap.size+1,5,none⟩) (by first | (simp [hg0];done) | (simp [hg0];omega) | (simp;omega))).trans (by simp [go_sem, *]);have rz6:w6.cell? ⟨w.heap.size+1,6,none⟩=some (.slice none 0 0):=(hb6.cell (p:=⟨w.heap.size+1,6,none⟩) (by first | (simp [hg0];done) | (simp [hg0];omega) | (simp;omega))).trans (by simp [go_sem, *]);have fgz:∀ j,w6.frozen? ⟨w.heap.size,j,none⟩=false:=fun j=>(hb6.frozen (p:=⟨w.heap.size,j,none⟩) (by first | (simp [hg0];done) | (simp [hg0];omega) | (simp;omega))).trans (by simp [go_sem, *])
  clear hb6;clear d0 d1 d2 d3 d4 d5 d6;cases hid:idB i with
  | false =>
   have HI:=Lh_ hid;clear hid;go_wp2;go_ret;exact ⟨ret_bool (by rw [alikeB,if_neg (by decide),HI.out];simp),hbwz⟩
  | true =>
   have HI:=Lh_ hid;clear hid;have hcall:=Same_any (.mk 5 i l s t e []) (.mk 5 i ByteArray.empty 0 0 0 []) _ _ w6 (CRd_iff.2 ⟨none,0,rfl,HOK.out,Sl.nil_⟩) (CRd_iff.2 ⟨none,0,rfl,by have:=HOK.out;unfold okInt maxLen at *;simp at *;omega,Sl.nil_⟩);have HCALL:=Lh_ hcall;clear hcall;go_wp2_with fail;refine HCALL.out.mono ?_;rintro e' w7 ⟨rfl,hb7⟩;have hz:sameC (.mk 5 i l s t e []) (usedC (.mk 5 i l s t e xs))=sameC (.mk 5 i l s t e []) (.mk 5 i ByteArray.empty 0 0 0 []):=by rw [usedC];simp
   obtain ⟨z,hz2⟩:∃ z,sameC (.mk 5 i l s t e []) (.mk 5 i ByteArray.empty 0 0 0 [])=z:=⟨_,rfl⟩;rw [hz2] at hz ⊢;have HZ:=Lh_ hz;clear hz hz2;go_wp2;go_ret;exact ⟨ret_bool (by rw [alikeB,if_neg (by decide),HCOND.out,HI.out,HZ.out];simp),hbwz.trans (hb7.mono hbwz.size)⟩
 | false =>
  have hcond:condC (.mk 5 i l s t e xs)=false:=by unfold condC;simp only [c7withinB,hB];simp
  have HCOND:=Lh_ hcond;clear hcond hB;go_wp2;go_ret;exact ⟨ret_bool (by rw [alikeB,if_neg (by decide),HCOND.out];simp),(by (repeat first | refine Below.setCell ?_ (by first | (simp [hg0];done) | (simp [hg0];omega) | (simp;omega)) _ | refine Below.drew ?_ | refine Below.alloc ?_ (by first | (simp [hg0];done) | (simp [hg0];omega) | (simp;omega)) _);exact hb0)⟩
set_option maxRecDepth 100000 in
set_option maxHeartbeats 8000000 in
theorem alike_file (i l:ByteArray) (s t e:Int) (xs:List Cont) (cs:List Value) (w:World) (h:CRd w w.heap.size (.mk 1 i l s t e xs) cs):Calls Tryz.prog 149 #[.agg cs.toArray] w fun e' w'=>e'=.returned (.bool (alikeB (.mk 1 i l s t e xs)))∧Below w.heap.size w w':=by
 obtain ⟨A,c,rfl,hok,hsl⟩:=CRd_iff.1 h;have hzv:=(zero_of_info (P:=Tryz.prog) (t:=72) info_cont2).1;simp only [contCells];obtain ⟨w0,hw0⟩:∃ w0,w.alloc (.cells #[.int .i64 1,.string i,.string l,.int .i64 s,.int .i64 t,.int .i64 e,.slice A xs.length c] 72)=w0:=⟨_,rfl⟩;obtain ⟨hb0,hg0,hbox⟩:=box7 hw0;obtain ⟨d0,d1,d2,d3,d4,d5,d6⟩:=hbox.zero;have hfr0:∀ j,w0.frozen? ⟨w.heap.size,j,none⟩=false:=fun j=>box7f hw0 j
 have hnc:=hsl.1;have hcm:=hsl.2.1;have HC:=Lh_ (show condC (.mk 1 i l s t e xs)=condC (.mk 1 i l s t e xs) from rfl);have HOK:=Lh_ hok;have hi:=hok.2.1;have hl:=hok.2.2.1;have hrd:=CRd_more (show w.heap.size≤w0.heap.size by omega) _ _ (CRd_keep hb0 _ _ h);clear h hsl hbox hok;by_cases hlen:xs.length=0
 ·
  have hlenb:decide (0<xs.length)=false:=by simp [hlen]
  have hlenc:decide ((0:Int)<(xs.length:Int))=false:=by simp [hlen]
  cases hle:l.toList.isEmpty with
  | true =>
   have hle1:l.toList=[]:=by simpa using hle
   have hle2:(l.toList == [])=true:=by simpa using hle
   have hle3:(l.toList != [])=false:=by simpa using hle
   have hcond:condC (.mk 1 i l s t e xs)=true:=by unfold condC;simp [hlen,hle]
   have HCOND:=Lh_ hcond;clear hcond hlen;go_enter Tryz.func149,Tryz.ntmps149;go_wp2_with fail;go_region
   go_wp2_with fail;refine (isID_any i _ hi).mono ?_;rintro e' w6 ⟨rfl,hb6⟩;have hbwz:Below w.heap.size w w6:=Below.trans (b:=_) (by (repeat first | refine Below.setCell ?_ (by first | (simp [hg0];done) | (simp [hg0];omega) | (simp;omega)) _ | refine Below.drew ?_ | refine Below.alloc ?_ (by first | (simp [hg0];done) | (simp [hg0];omega) | (simp;omega)) _);exact hb0) (hb6.mono (by first | (simp [hg0];done) | (simp [hg0];omega) | (simp;omega)));have hsz:w.heap.size+2≤w6.heap.size:=Nat.le_trans (by first | (simp [hg0];done) | (simp [hg0];omega) | (simp;omega)) hb6.size;have qz0:w6.cell? ⟨w.heap.size,0,none⟩=some (.int .i64 1):=(hb6.cell (p:=⟨w.heap.size,0,none⟩) (by first | (simp [hg0];done) | (simp [hg0];omega) | (simp;omega))).trans (by simp [go_sem, *]);have qz1:w6.cell? ⟨w.heap.size,1,none⟩=some (.string i):=(hb6.cell (p:=⟨w.heap.size,1,none⟩) (by first | (simp [hg0];done) | (simp [hg0];omega) | (simp;omega))).trans (by simp [go_sem, *]);have qz2:w6.cell? ⟨w.heap.size,2,none⟩=some (.string l):=(hb6.cell (p:=⟨w.heap.size,2,none⟩) (by first | (simp [hg0];done) | (simp [hg0];omega) | (simp;omega))).trans (by simp [go_sem, *]);have qz3:w6.cell? ⟨w.heap.size,3,none⟩=some (.int .i64 s):=(hb6.cell (p:=⟨w.heap.size,3,none⟩) (by first | (simp [hg0];done) | (simp [hg0];omega) | (simp;omega))).trans (by simp [go_sem, *]);have qz4:w6.cell? ⟨w.heap.size,4,none⟩=some (.int .i64 t):=(hb6.cell (p:=⟨w.heap.size,4,none⟩) (by first | (simp [hg0];done) | (simp [hg0];omega) | (simp;omega))).trans (by simp [go_sem, *]);have qz5:w6.cell? ⟨w.heap.size,5,none⟩=some (.int .i64 e):=(hb6.cell (p:=⟨w.heap.size,5,none⟩) (by first | (simp [hg0];done) | (simp [hg0];omega) | (simp;omega))).trans (by simp [go_sem, *]);have qz6:w6.cell? ⟨w.heap.size,6,none⟩=some (.slice none 0 0):=(hb6.cell (p:=⟨w.heap.size,6,none⟩) (by first | (simp [hg0];done) | (simp [hg0];omega) | (simp;omega))).trans (by simp [go_sem, *]);have rz0:w6.cell? ⟨w.heap.size+1,0,none⟩=some (.int .i64 1):=(hb6.cell (p:=⟨w.heap.size+1,0,none⟩) (by first | (simp [hg0];done) | (simp [hg0];omega) | (simp;omega))).trans (by simp [go_sem, *]);have rz1:w6.cell? ⟨w.heap.size+1,1,none⟩=some (.string i):=(hb6.cell (p:=⟨w.heap.size+1,1,none⟩) (by first | (simp [hg0];done) | (simp [hg0];omega) | (simp;omega))).trans (by simp [go_sem, *]);have rz2:w6.cell? ⟨w.heap.size+1,2,none⟩=some (.string l):=(hb6.cell (p:=⟨w.heap.size+1,2,none⟩) (by first | (simp [hg0];done) | (simp [hg0];omega) | (simp;omega))).trans (by simp [go_sem, *]);have rz3:w6.cell? ⟨w.heap.size+1,3,none⟩=some (.int .i64 0):=(hb6.cell (p:=⟨w.heap.size+1,3,none⟩) (by first | (simp [hg0];done) | (simp [hg0];omega) | (simp;omega))).trans (by simp [go_sem, *])
   have rz4:w6.cell? ⟨w.heap.size+1,4,none⟩=some (.int .i64 0):=(hb6.cell (p:=⟨w.heap.size+1,4,none⟩) (by first | (simp [hg0];done) | (simp [hg0];omega) | (simp;omega))).trans (by simp [go_sem, *]);have rz5:w6.cell? ⟨w.heap.size+1,5,none⟩=some (.int .i64 0):=(hb6.cell (p:=⟨w.heap.size+1,5,none⟩) (by first | (simp [hg0];done) | (simp [hg0];omega) | (simp;omega))).trans (by simp [go_sem, *]);have rz6:w6.cell? ⟨w.heap.size+1,6,none⟩=some (.slice none 0 0):=(hb6.cell (p:=⟨w.heap.size+1,6,none⟩) (by first | (simp [hg0];done) | (simp [hg0];omega) | (simp;omega))).trans (by simp [go_sem, *]);have fgz:∀ j,w6.frozen? ⟨w.heap.size,j,none⟩=false:=fun j=>(hb6.frozen (p:=⟨w.heap.size,j,none⟩) (by first | (simp [hg0];done) | (simp [hg0];omega) | (simp;omega))).trans (by simp [go_sem, *])
   clear hb6;clear d0 d1 d2 d3 d4 d5 d6;cases hid:idB i with
   | false =>
    have HI:=Lh_ hid;clear hid;go_wp2;go_ret;exact ⟨ret_bool (by rw [alikeB,if_neg (by decide),HI.out];simp),hbwz⟩
   | true =>
    have HI:=Lh_ hid;clear hid;have hcall:=Same_any (.mk 1 i l s t e []) (.mk 1 i l 0 0 0 []) _ _ w6 (CRd_iff.2 ⟨none,0,rfl,HOK.out,Sl.nil_⟩) (CRd_iff.2 ⟨none,0,rfl,by have:=HOK.out;unfold okInt maxLen at *;simp at *;omega,Sl.nil_⟩);have HCALL:=Lh_ hcall;clear hcall;go_wp2_with fail;refine HCALL.out.mono ?_;rintro e' w7 ⟨rfl,hb7⟩;have hz:sameC (.mk 1 i l s t e []) (usedC (.mk 1 i l s t e xs))=sameC (.mk 1 i l s t e []) (.mk 1 i l 0 0 0 []):=by rw [usedC];simp
    obtain ⟨z,hz2⟩:∃ z,sameC (.mk 1 i l s t e []) (.mk 1 i l 0 0 0 [])=z:=⟨_,rfl⟩;rw [hz2] at hz ⊢;have HZ:=Lh_ hz;clear hz hz2;go_wp2;go_ret;exact ⟨ret_bool (by rw [alikeB,if_neg (by decide),HCOND.out,HI.out,HZ.out];simp),hbwz.trans (hb7.mono hbwz.size)⟩
  | false =>
   have hle1:¬ l.toList=[]:=by simpa using hle
   have hle2:(l.toList == [])=false:=by simpa using hle
   have hle3:(l.toList != [])=true:=by simpa using hle
   have hcond:condC (.mk 1 i l s t e xs)=idB l:=by unfold condC;simp [hlen,hle]
   have HCOND:=Lh_ hcond;clear hcond hlen;go_enter Tryz.func149,Tryz.ntmps149;go_wp2_with fail;go_region
   go_wp2_with fail;refine (isID_any l _ hl).mono ?_;rintro e' w5 ⟨rfl,hb5⟩;have hbwy:Below w.heap.size w w5:=Below.trans (b:=_) (by (repeat first | refine Below.setCell ?_ (by first | (simp [hg0];done) | (simp [hg0];omega) | (simp;omega)) _ | refine Below.drew ?_ | refine Below.alloc ?_ (by first | (simp [hg0];done) | (simp [hg0];omega) | (simp;omega)) _);exact hb0) (hb5.mono (by first | (simp [hg0];done) | (simp [hg0];omega) | (simp;omega)));have hsy:w.heap.size+2≤w5.heap.size:=Nat.le_trans (by first | (simp [hg0];done) | (simp [hg0];omega) | (simp;omega)) hb5.size;have qy0:w5.cell? ⟨w.heap.size,0,none⟩=some (.int .i64 1):=(hb5.cell (p:=⟨w.heap.size,0,none⟩) (by first | (simp [hg0];done) | (simp [hg0];omega) | (simp;omega))).trans (by simp [go_sem, *]);have qy1:w5.cell? ⟨w.heap.size,1,none⟩=some (.string i):=(hb5.cell (p:=⟨w.heap.size,1,none⟩) (by first | (simp [hg0];done) | (simp [hg0];omega) | (simp;omega))).trans (by simp [go_sem, *]);have qy2:w5.cell? ⟨w.heap.size,2,none⟩=some (.string l):=(hb5.cell (p:=⟨w.heap.size,2,none⟩) (by first | (simp [hg0];done) | (simp [hg0];omega) | (simp;omega))).trans (by simp [go_sem, *]);have qy3:w5.cell? ⟨w.heap.size,3,none⟩=some (.int .i64 s):=(hb5.cell (p:=⟨w.heap.size,3,none⟩) (by first | (simp [hg0];done) | (simp [hg0];omega) | (simp;omega))).trans (by simp [go_sem, *]);have qy4:w5.cell? ⟨w.heap.size,4,none⟩=some (.int .i64 t):=(hb5.cell (p:=⟨w.heap.size,4,none⟩) (by first | (simp [hg0];done) | (simp [hg0];omega) | (simp;omega))).trans (by simp [go_sem, *]);have qy5:w5.cell? ⟨w.heap.size,5,none⟩=some (.int .i64 e):=(hb5.cell (p:=⟨w.heap.size,5,none⟩) (by first | (simp [hg0];done) | (simp [hg0];omega) | (simp;omega))).trans (by simp [go_sem, *]);have qy6:w5.cell? ⟨w.heap.size,6,none⟩=some (.slice A xs.length c):=(hb5.cell (p:=⟨w.heap.size,6,none⟩) (by first | (simp [hg0];done) | (simp [hg0];omega) | (simp;omega))).trans (by simp [go_sem, *]);have ry0:w5.cell? ⟨w.heap.size+1,0,none⟩=some (.int .i64 1):=(hb5.cell (p:=⟨w.heap.size+1,0,none⟩) (by first | (simp [hg0];done) | (simp [hg0];omega) | (simp;omega))).trans (by simp [go_sem, *]);have ry1:w5.cell? ⟨w.heap.size+1,1,none⟩=some (.string i):=(hb5.cell (p:=⟨w.heap.size+1,1,none⟩) (by first | (simp [hg0];done) | (simp [hg0];omega) | (simp;omega))).trans (by simp [go_sem, *]);have ry2:w5.cell? ⟨w.heap.size+1,2,none⟩=some (.string l):=(hb5.cell (p:=⟨w.heap.size+1,2,none⟩) (by first | (simp [hg0];done) | (simp [hg0];omega) | (simp;omega))).trans (by simp [go_sem, *]);have ry3:w5.cell? ⟨w.heap.size+1,3,none⟩=some (.int .i64 0):=(hb5.cell (p:=⟨w.heap.size+1,3,none⟩) (by first | (simp [hg0];done) | (simp [hg0];omega) | (simp;omega))).trans (by simp [go_sem, *])
   have ry4:w5.cell? ⟨w.heap.size+1,4,none⟩=some (.int .i64 0):=(hb5.cell (p:=⟨w.heap.size+1,4,none⟩) (by first | (simp [hg0];done) | (simp [hg0];omega) | (simp;omega))).trans (by simp [go_sem, *]);have ry5:w5.cell? ⟨w.heap.size+1,5,none⟩=some (.int .i64 0):=(hb5.cell (p:=⟨w.heap.size+1,5,none⟩) (by first | (simp [hg0];done) | (simp [hg0];omega) | (simp;omega))).trans (by simp [go_sem, *]);have ry6:w5.cell? ⟨w.heap.size+1,6,none⟩=some (.slice none 0 0):=(hb5.cell (p:=⟨w.heap.size+1,6,none⟩) (by first | (simp [hg0];done) | (simp [hg0];omega) | (simp;omega))).trans (by simp [go_sem, *]);have fgy:∀ j,w5.frozen? ⟨w.heap.size,j,none⟩=false:=fun j=>(hb5.frozen (p:=⟨w.heap.size,j,none⟩) (by first | (simp [hg0];done) | (simp [hg0];omega) | (simp;omega))).trans (by simp [go_sem, *])
   clear hb5;clear d0 d1 d2 d3 d4 d5 d6 hfr0;cases hid1:idB l with
   | true =>
    have HID1:=Lh_ hid1;clear hid1;go_wp2_with fail;refine (isID_any i _ hi).mono ?_;rintro e' w6 ⟨rfl,hb6⟩;have hbwz:Below w.heap.size w w6:=Below.trans (b:=_) (by (repeat first | refine Below.setCell ?_ (by first | (simp [hg0];done) | (simp [hg0];omega) | (simp;omega)) _ | refine Below.drew ?_ | refine Below.alloc ?_ (by first | (simp [hg0];done) | (simp [hg0];omega) | (simp;omega)) _);exact hbwy) (hb6.mono (by first | (simp [hg0];done) | (simp [hg0];omega) | (simp;omega)));have hsz:w.heap.size+2≤w6.heap.size:=Nat.le_trans (by first | (simp [hg0];done) | (simp [hg0];omega) | (simp;omega)) hb6.size;have qz0:w6.cell? ⟨w.heap.size,0,none⟩=some (.int .i64 1):=(hb6.cell (p:=⟨w.heap.size,0,none⟩) (by first | (simp [hg0];done) | (simp [hg0];omega) | (simp;omega))).trans (by simp [go_sem, *]);have qz1:w6.cell? ⟨w.heap.size,1,none⟩=some (.string i):=(hb6.cell (p:=⟨w.heap.size,1,none⟩) (by first | (simp [hg0];done) | (simp [hg0];omega) | (simp;omega))).trans (by simp [go_sem, *]);have qz2:w6.cell? ⟨w.heap.size,2,none⟩=some (.string l):=(hb6.cell (p:=⟨w.heap.size,2,none⟩) (by first | (simp [hg0];done) | (simp [hg0];omega) | (simp;omega))).trans (by simp [go_sem, *]);have qz3:w6.cell? ⟨w.heap.size,3,none⟩=some (.int .i64 s):=(hb6.cell (p:=⟨w.heap.size,3,none⟩) (by first | (simp [hg0];done) | (simp [hg0];omega) | (simp;omega))).trans (by simp [go_sem, *]);have qz4:w6.cell? ⟨w.heap.size,4,none⟩=some (.int .i64 t):=(hb6.cell (p:=⟨w.heap.size,4,none⟩) (by first | (simp [hg0];done) | (simp [hg0];omega) | (simp;omega))).trans (by simp [go_sem, *]);have qz5:w6.cell? ⟨w.heap.size,5,none⟩=some (.int .i64 e):=(hb6.cell (p:=⟨w.heap.size,5,none⟩) (by first | (simp [hg0];done) | (simp [hg0];omega) | (simp;omega))).trans (by simp [go_sem, *]);have qz6:w6.cell? ⟨w.heap.size,6,none⟩=some (.slice none 0 0):=(hb6.cell (p:=⟨w.heap.size,6,none⟩) (by first | (simp [hg0];done) | (simp [hg0];omega) | (simp;omega))).trans (by simp [go_sem, *]);have rz0:w6.cell? ⟨w.heap.size+1,0,none⟩=some (.int .i64 1):=(hb6.cell (p:=⟨w.heap.size+1,0,none⟩) (by first | (simp [hg0];done) | (simp [hg0];omega) | (simp;omega))).trans (by simp [go_sem, *]);have rz1:w6.cell? ⟨w.heap.size+1,1,none⟩=some (.string i):=(hb6.cell (p:=⟨w.heap.size+1,1,none⟩) (by first | (simp [hg0];done) | (simp [hg0];omega) | (simp;omega))).trans (by simp [go_sem, *]);have rz2:w6.cell? ⟨w.heap.size+1,2,none⟩=some (.string l):=(hb6.cell (p:=⟨w.heap.size+1,2,none⟩) (by first | (simp [hg0];done) | (simp [hg0];omega) | (simp;omega))).trans (by simp [go_sem, *]);have rz3:w6.cell? ⟨w.heap.size+1,3,none⟩=some (.int .i64 0):=(hb6.cell (p:=⟨w.heap.size+1,3,none⟩) (by first | (simp [hg0];done) | (simp [hg0];omega) | (simp;omega))).trans (by simp [go_sem, *])
    have rz4:w6.cell? ⟨w.heap.size+1,4,none⟩=some (.int .i64 0):=(hb6.cell (p:=⟨w.heap.size+1,4,none⟩) (by first | (simp [hg0];done) | (simp [hg0];omega) | (simp;omega))).trans (by simp [go_sem, *]);have rz5:w6.cell? ⟨w.heap.size+1,5,none⟩=some (.int .i64 0):=(hb6.cell (p:=⟨w.heap.size+1,5,none⟩) (by first | (simp [hg0];done) | (simp [hg0];omega) | (simp;omega))).trans (by simp [go_sem, *]);have rz6:w6.cell? ⟨w.heap.size+1,6,none⟩=some (.slice none 0 0):=(hb6.cell (p:=⟨w.heap.size+1,6,none⟩) (by first | (simp [hg0];done) | (simp [hg0];omega) | (simp;omega))).trans (by simp [go_sem, *]);have fgz:∀ j,w6.frozen? ⟨w.heap.size,j,none⟩=false:=fun j=>(hb6.frozen (p:=⟨w.heap.size,j,none⟩) (by first | (simp [hg0];done) | (simp [hg0];omega) | (simp;omega))).trans (by simp [go_sem, *])
    clear hb6;clear qy0 qy1 qy2 qy3 qy4 qy5 qy6 ry0 ry1 ry2 ry3 ry4 ry5 ry6;cases hid:idB i with
    | false =>
     have HI:=Lh_ hid;clear hid;go_wp2;go_ret;exact ⟨ret_bool (by rw [alikeB,if_neg (by decide),HI.out];simp),hbwz⟩
    | true =>
     have HI:=Lh_ hid;clear hid;have hcall:=Same_any (.mk 1 i l s t e []) (.mk 1 i l 0 0 0 []) _ _ w6 (CRd_iff.2 ⟨none,0,rfl,HOK.out,Sl.nil_⟩) (CRd_iff.2 ⟨none,0,rfl,by have:=HOK.out;unfold okInt maxLen at *;simp at *;omega,Sl.nil_⟩);have HCALL:=Lh_ hcall;clear hcall;go_wp2_with fail;refine HCALL.out.mono ?_;rintro e' w7 ⟨rfl,hb7⟩;have hz:sameC (.mk 1 i l s t e []) (usedC (.mk 1 i l s t e xs))=sameC (.mk 1 i l s t e []) (.mk 1 i l 0 0 0 []):=by rw [usedC];simp
     obtain ⟨z,hz2⟩:∃ z,sameC (.mk 1 i l s t e []) (.mk 1 i l 0 0 0 [])=z:=⟨_,rfl⟩;rw [hz2] at hz ⊢;have HZ:=Lh_ hz;clear hz hz2;go_wp2;go_ret;exact ⟨ret_bool (by rw [alikeB,if_neg (by decide),HCOND.out,HID1.out,HI.out,HZ.out];simp),hbwz.trans (hb7.mono hbwz.size)⟩
   | false =>
    have HID1:=Lh_ hid1;clear hid1;go_wp2;go_ret;exact ⟨ret_bool (by rw [alikeB,if_neg (by decide),HCOND.out,HID1.out];simp),hbwy⟩
 ·
  have hlenb:decide (0<xs.length)=true:=by simp;omega
  have hlenc:decide ((0:Int)<(xs.length:Int))=true:=by simp;omega
  have hcond:condC (.mk 1 i l s t e xs)=false:=by unfold condC;simp [hlen]
  have HCOND:=Lh_ hcond;clear hcond hlen;go_enter Tryz.func149,Tryz.ntmps149;go_wp2_with fail;go_region
  go_wp2;go_ret;exact ⟨ret_bool (by rw [alikeB,if_neg (by decide),HCOND.out];simp),(by (repeat first | refine Below.setCell ?_ (by first | (simp [hg0];done) | (simp [hg0];omega) | (simp;omega)) _ | refine Below.drew ?_ | refine Below.alloc ?_ (by first | (simp [hg0];done) | (simp [hg0];omega) | (simp;omega)) _);exact hb0)⟩
set_option maxRecDepth 100000 in
set_option maxHeartbeats 8000000 in
theorem alike_group (i l:ByteArray) (s t e:Int) (xs:List Cont) (cs:List Value) (w:World) (h:CRd w w.heap.size (.mk 4 i l s t e xs) cs):Calls Tryz.prog 149 #[.agg cs.toArray] w fun e' w'=>e'=.returned (.bool (alikeB (.mk 4 i l s t e xs)))∧Below w.heap.size w w':=by
 obtain ⟨A,c,rfl,hok,hsl⟩:=CRd_iff.1 h;have hzv:=(zero_of_info (P:=Tryz.prog) (t:=72) info_cont2).1;simp only [contCells];obtain ⟨w0,hw0⟩:∃ w0,w.alloc (.cells #[.int .i64 4,.string i,.string l,.int .i64 s,.int .i64 t,.int .i64 e,.slice A xs.length c] 72)=w0:=⟨_,rfl⟩;obtain ⟨hb0,hg0,hbox⟩:=box7 hw0;obtain ⟨d0,d1,d2,d3,d4,d5,d6⟩:=hbox.zero;have hfr0:∀ j,w0.frozen? ⟨w.heap.size,j,none⟩=false:=fun j=>box7f hw0 j
 have hnc:=hsl.1;have hcm:=hsl.2.1;have HC:=Lh_ (show condC (.mk 4 i l s t e xs)=condC (.mk 4 i l s t e xs) from rfl);have HOK:=Lh_ hok;have hi:=hok.2.1;have hl:=hok.2.2.1;have hrd:=CRd_more (show w.heap.size≤w0.heap.size by omega) _ _ (CRd_keep hb0 _ _ h);clear h hsl hbox hok;go_enter Tryz.func149,Tryz.ntmps149;go_wp2_with fail;go_region
 go_wp2_with fail;go_region
 all_goals
  go_wp2_with fail;refine (c7within_any _ 16 _).mono ?_;rintro e' w' ⟨rfl,rfl⟩;cases hB:(decide (1≤(xs.length:Int)) && decide ((xs.length:Int)≤16)) with
  | true =>
   have hcond:condC (.mk 4 i l s t e xs)=(c7withinB t 16 && c7withinB s t):=by unfold condC;simp only [c7withinB,hB];simp
   have HCOND:=Lh_ hcond;clear hcond hB;go_wp2_with fail;refine (slots_raw _ _ _ _ _ _ _ _ _ _).mono ?_;rintro e' w5 ⟨rfl,hb5⟩;have hbwy:Below w.heap.size w w5:=Below.trans (b:=_) (by (repeat first | refine Below.setCell ?_ (by first | (simp [hg0];done) | (simp [hg0];omega) | (simp;omega)) _ | refine Below.drew ?_ | refine Below.alloc ?_ (by first | (simp [hg0];done) | (simp [hg0];omega) | (simp;omega)) _);exact hb0) (hb5.mono (by first | (simp [hg0];done) | (simp [hg0];omega) | (simp;omega)));have hsy:w.heap.size+2≤w5.heap.size:=Nat.le_trans (by first | (simp [hg0];done) | (simp [hg0];omega) | (simp;omega)) hb5.size;have qy0:w5.cell? ⟨w.heap.size,0,none⟩=some (.int .i64 4):=(hb5.cell (p:=⟨w.heap.size,0,none⟩) (by first | (simp [hg0];done) | (simp [hg0];omega) | (simp;omega))).trans (by simp [go_sem, *]);have qy1:w5.cell? ⟨w.heap.size,1,none⟩=some (.string i):=(hb5.cell (p:=⟨w.heap.size,1,none⟩) (by first | (simp [hg0];done) | (simp [hg0];omega) | (simp;omega))).trans (by simp [go_sem, *]);have qy2:w5.cell? ⟨w.heap.size,2,none⟩=some (.string l):=(hb5.cell (p:=⟨w.heap.size,2,none⟩) (by first | (simp [hg0];done) | (simp [hg0];omega) | (simp;omega))).trans (by simp [go_sem, *]);have qy3:w5.cell? ⟨w.heap.size,3,none⟩=some (.int .i64 s):=(hb5.cell (p:=⟨w.heap.size,3,none⟩) (by first | (simp [hg0];done) | (simp [hg0];omega) | (simp;omega))).trans (by simp [go_sem, *]);have qy4:w5.cell? ⟨w.heap.size,4,none⟩=some (.int .i64 t):=(hb5.cell (p:=⟨w.heap.size,4,none⟩) (by first | (simp [hg0];done) | (simp [hg0];omega) | (simp;omega))).trans (by simp [go_sem, *]);have qy5:w5.cell? ⟨w.heap.size,5,none⟩=some (.int .i64 e):=(hb5.cell (p:=⟨w.heap.size,5,none⟩) (by first | (simp [hg0];done) | (simp [hg0];omega) | (simp;omega))).trans (by simp [go_sem, *]);have qy6:w5.cell? ⟨w.heap.size,6,none⟩=some (.slice A xs.length c):=(hb5.cell (p:=⟨w.heap.size,6,none⟩) (by first | (simp [hg0];done) | (simp [hg0];omega) | (simp;omega))).trans (by simp [go_sem, *]);have ry0:w5.cell? ⟨w.heap.size+1,0,none⟩=some (.int .i64 4):=(hb5.cell (p:=⟨w.heap.size+1,0,none⟩) (by first | (simp [hg0];done) | (simp [hg0];omega) | (simp;omega))).trans (by simp [go_sem, *]);have ry1:w5.cell? ⟨w.heap.size+1,1,none⟩=some (.string i):=(hb5.cell (p:=⟨w.heap.size+1,1,none⟩) (by first | (simp [hg0];done) | (simp [hg0];omega) | (simp;omega))).trans (by simp [go_sem, *]);have ry2:w5.cell? ⟨w.heap.size+1,2,none⟩=some (.string ByteArray.empty):=(hb5.cell (p:=⟨w.heap.size+1,2,none⟩) (by first | (simp [hg0];done) | (simp [hg0];omega) | (simp;omega))).trans (by simp [go_sem, *]);have ry3:w5.cell? ⟨w.heap.size+1,3,none⟩=some (.int .i64 s):=(hb5.cell (p:=⟨w.heap.size+1,3,none⟩) (by first | (simp [hg0];done) | (simp [hg0];omega) | (simp;omega))).trans (by simp [go_sem, *])
   have ry4:w5.cell? ⟨w.heap.size+1,4,none⟩=some (.int .i64 t):=(hb5.cell (p:=⟨w.heap.size+1,4,none⟩) (by first | (simp [hg0];done) | (simp [hg0];omega) | (simp;omega))).trans (by simp [go_sem, *]);have ry5:w5.cell? ⟨w.heap.size+1,5,none⟩=some (.int .i64 0):=(hb5.cell (p:=⟨w.heap.size+1,5,none⟩) (by first | (simp [hg0];done) | (simp [hg0];omega) | (simp;omega))).trans (by simp [go_sem, *]);have ry6:w5.cell? ⟨w.heap.size+1,6,none⟩=some (.slice none 0 0):=(hb5.cell (p:=⟨w.heap.size+1,6,none⟩) (by first | (simp [hg0];done) | (simp [hg0];omega) | (simp;omega))).trans (by simp [go_sem, *]);have fgy:∀ j,w5.frozen? ⟨w.heap.size,j,none⟩=false:=fun j=>(hb5.frozen (p:=⟨w.heap.size,j,none⟩) (by first | (simp [hg0];done) | (simp [hg0];omega) | (simp;omega))).trans (by simp [go_sem, *])
   clear hb5;clear d0 d1 d2 d3 d4 d5 d6 hfr0;cases hB2:(c7withinB t 16 && c7withinB s t) with
   | true =>
    have HB2:=Lh_ hB2;clear hB2;go_wp2_with fail;refine (isID_any i _ hi).mono ?_;rintro e' w6 ⟨rfl,hb6⟩;have hbwz:Below w.heap.size w w6:=Below.trans (b:=_) (by (repeat first | refine Below.setCell ?_ (by first | (simp [hg0];done) | (simp [hg0];omega) | (simp;omega)) _ | refine Below.drew ?_ | refine Below.alloc ?_ (by first | (simp [hg0];done) | (simp [hg0];omega) | (simp;omega)) _);exact hbwy) (hb6.mono (by first | (simp [hg0];done) | (simp [hg0];omega) | (simp;omega)));have hsz:w.heap.size+2≤w6.heap.size:=Nat.le_trans (by first | (simp [hg0];done) | (simp [hg0];omega) | (simp;omega)) hb6.size;have qz0:w6.cell? ⟨w.heap.size,0,none⟩=some (.int .i64 4):=(hb6.cell (p:=⟨w.heap.size,0,none⟩) (by first | (simp [hg0];done) | (simp [hg0];omega) | (simp;omega))).trans (by simp [go_sem, *]);have qz1:w6.cell? ⟨w.heap.size,1,none⟩=some (.string i):=(hb6.cell (p:=⟨w.heap.size,1,none⟩) (by first | (simp [hg0];done) | (simp [hg0];omega) | (simp;omega))).trans (by simp [go_sem, *]);have qz2:w6.cell? ⟨w.heap.size,2,none⟩=some (.string l):=(hb6.cell (p:=⟨w.heap.size,2,none⟩) (by first | (simp [hg0];done) | (simp [hg0];omega) | (simp;omega))).trans (by simp [go_sem, *]);have qz3:w6.cell? ⟨w.heap.size,3,none⟩=some (.int .i64 s):=(hb6.cell (p:=⟨w.heap.size,3,none⟩) (by first | (simp [hg0];done) | (simp [hg0];omega) | (simp;omega))).trans (by simp [go_sem, *]);have qz4:w6.cell? ⟨w.heap.size,4,none⟩=some (.int .i64 t):=(hb6.cell (p:=⟨w.heap.size,4,none⟩) (by first | (simp [hg0];done) | (simp [hg0];omega) | (simp;omega))).trans (by simp [go_sem, *]);have qz5:w6.cell? ⟨w.heap.size,5,none⟩=some (.int .i64 e):=(hb6.cell (p:=⟨w.heap.size,5,none⟩) (by first | (simp [hg0];done) | (simp [hg0];omega) | (simp;omega))).trans (by simp [go_sem, *]);have qz6:w6.cell? ⟨w.heap.size,6,none⟩=some (.slice none 0 0):=(hb6.cell (p:=⟨w.heap.size,6,none⟩) (by first | (simp [hg0];done) | (simp [hg0];omega) | (simp;omega))).trans (by simp [go_sem, *]);have rz0:w6.cell? ⟨w.heap.size+1,0,none⟩=some (.int .i64 4):=(hb6.cell (p:=⟨w.heap.size+1,0,none⟩) (by first | (simp [hg0];done) | (simp [hg0];omega) | (simp;omega))).trans (by simp [go_sem, *]);have rz1:w6.cell? ⟨w.heap.size+1,1,none⟩=some (.string i):=(hb6.cell (p:=⟨w.heap.size+1,1,none⟩) (by first | (simp [hg0];done) | (simp [hg0];omega) | (simp;omega))).trans (by simp [go_sem, *]);have rz2:w6.cell? ⟨w.heap.size+1,2,none⟩=some (.string ByteArray.empty):=(hb6.cell (p:=⟨w.heap.size+1,2,none⟩) (by first | (simp [hg0];done) | (simp [hg0];omega) | (simp;omega))).trans (by simp [go_sem, *]);have rz3:w6.cell? ⟨w.heap.size+1,3,none⟩=some (.int .i64 s):=(hb6.cell (p:=⟨w.heap.size+1,3,none⟩) (by first | (simp [hg0];done) | (simp [hg0];omega) | (simp;omega))).trans (by simp [go_sem, *])
    have rz4:w6.cell? ⟨w.heap.size+1,4,none⟩=some (.int .i64 t):=(hb6.cell (p:=⟨w.heap.size+1,4,none⟩) (by first | (simp [hg0];done) | (simp [hg0];omega) | (simp;omega))).trans (by simp [go_sem, *]);have rz5:w6.cell? ⟨w.heap.size+1,5,none⟩=some (.int .i64 0):=(hb6.cell (p:=⟨w.heap.size+1,5,none⟩) (by first | (simp [hg0];done) | (simp [hg0];omega) | (simp;omega))).trans (by simp [go_sem, *]);have rz6:w6.cell? ⟨w.heap.size+1,6,none⟩=some (.slice none 0 0):=(hb6.cell (p:=⟨w.heap.size+1,6,none⟩) (by first | (simp [hg0];done) | (simp [hg0];omega) | (simp;omega))).trans (by simp [go_sem, *]);have fgz:∀ j,w6.frozen? ⟨w.heap.size,j,none⟩=false:=fun j=>(hb6.frozen (p:=⟨w.heap.size,j,none⟩) (by first | (simp [hg0];done) | (simp [hg0];omega) | (simp;omega))).trans (by simp [go_sem, *])
    clear hb6;clear qy0 qy1 qy2 qy3 qy4 qy5 qy6 ry0 ry1 ry2 ry3 ry4 ry5 ry6;cases hid:idB i with
    | false =>
     have HI:=Lh_ hid;clear hid;go_wp2;go_ret;exact ⟨ret_bool (by rw [alikeB,if_neg (by decide),HI.out];simp),hbwz⟩
    | true =>
     have HI:=Lh_ hid;clear hid;have hcall:=Same_any (.mk 4 i l s t e []) (.mk 4 i ByteArray.empty s t 0 []) _ _ w6 (CRd_iff.2 ⟨none,0,rfl,HOK.out,Sl.nil_⟩) (CRd_iff.2 ⟨none,0,rfl,by have:=HOK.out;unfold okInt maxLen at *;simp at *;omega,Sl.nil_⟩);have HCALL:=Lh_ hcall;clear hcall;go_wp2_with fail;refine HCALL.out.mono ?_;rintro e' w7 ⟨rfl,hb7⟩;have hz:sameC (.mk 4 i l s t e []) (usedC (.mk 4 i l s t e xs))=sameC (.mk 4 i l s t e []) (.mk 4 i ByteArray.empty s t 0 []):=by rw [usedC];simp
     obtain ⟨z,hz2⟩:∃ z,sameC (.mk 4 i l s t e []) (.mk 4 i ByteArray.empty s t 0 [])=z:=⟨_,rfl⟩;rw [hz2] at hz ⊢;have HZ:=Lh_ hz;clear hz hz2;go_wp2;go_ret;exact ⟨ret_bool (by rw [alikeB,if_neg (by decide),HCOND.out,HB2.out,HI.out,HZ.out];simp),hbwz.trans (hb7.mono hbwz.size)⟩
   | false =>
    have HB2:=Lh_ hB2;clear hB2;go_wp2;go_ret;exact ⟨ret_bool (by rw [alikeB,if_neg (by decide),HCOND.out,HB2.out];simp),hbwy⟩
  | false =>
   have hcond:condC (.mk 4 i l s t e xs)=false:=by unfold condC;simp only [c7withinB,hB];simp
   have HCOND:=Lh_ hcond;clear hcond hB;go_wp2;go_ret;exact ⟨ret_bool (by rw [alikeB,if_neg (by decide),HCOND.out];simp),(by (repeat first | refine Below.setCell ?_ (by first | (simp [hg0];done) | (simp [hg0];omega) | (simp;omega)) _ | refine Below.drew ?_ | refine Below.alloc ?_ (by first | (simp [hg0];done) | (simp [hg0];omega) | (simp;omega)) _);exact hb0)⟩
set_option maxRecDepth 100000 in
set_option maxHeartbeats 8000000 in
theorem alike_raid (i l:ByteArray) (s t e:Int) (xs:List Cont) (cs:List Value) (w:World) (h:CRd w w.heap.size (.mk 2 i l s t e xs) cs):Calls Tryz.prog 149 #[.agg cs.toArray] w fun e' w'=>e'=.returned (.bool (alikeB (.mk 2 i l s t e xs)))∧Below w.heap.size w w':=by
 obtain ⟨A,c,rfl,hok,hsl⟩:=CRd_iff.1 h;have hzv:=(zero_of_info (P:=Tryz.prog) (t:=72) info_cont2).1;simp only [contCells];obtain ⟨w0,hw0⟩:∃ w0,w.alloc (.cells #[.int .i64 2,.string i,.string l,.int .i64 s,.int .i64 t,.int .i64 e,.slice A xs.length c] 72)=w0:=⟨_,rfl⟩;obtain ⟨hb0,hg0,hbox⟩:=box7 hw0;obtain ⟨d0,d1,d2,d3,d4,d5,d6⟩:=hbox.zero;have hfr0:∀ j,w0.frozen? ⟨w.heap.size,j,none⟩=false:=fun j=>box7f hw0 j
 have hnc:=hsl.1;have hcm:=hsl.2.1;have HC:=Lh_ (show condC (.mk 2 i l s t e xs)=condC (.mk 2 i l s t e xs) from rfl);have HOK:=Lh_ hok;have hi:=hok.2.1;have hl:=hok.2.2.1;have hrd:=CRd_more (show w.heap.size≤w0.heap.size by omega) _ _ (CRd_keep hb0 _ _ h);clear h hsl hbox hok;by_cases hlen:xs.length=1
 ·
  have hlenb:((xs.length:Int) != 1)=false:=by simp [hlen]
  have hcond:condC (.mk 2 i l s t e xs)=((c7withinB t 16 && c7withinB s t) && c7withinB e t):=by unfold condC;simp [hlen]
  have HCOND:=Lh_ hcond;clear hcond hlen;go_enter Tryz.func149,Tryz.ntmps149;go_wp2_with fail;go_region
  go_wp2_with fail;go_region
  all_goals
   go_wp2_with fail;refine (slots_raw _ _ _ _ _ _ _ _ _ _).mono ?_;rintro e' w5 ⟨rfl,hb5⟩;have hbwy:Below w.heap.size w w5:=Below.trans (b:=_) (by (repeat first | refine Below.setCell ?_ (by first | (simp [hg0];done) | (simp [hg0];omega) | (simp;omega)) _ | refine Below.drew ?_ | refine Below.alloc ?_ (by first | (simp [hg0];done) | (simp [hg0];omega) | (simp;omega)) _);exact hb0) (hb5.mono (by first | (simp [hg0];done) | (simp [hg0];omega) | (simp;omega)));have hsy:w.heap.size+2≤w5.heap.size:=Nat.le_trans (by first | (simp [hg0];done) | (simp [hg0];omega) | (simp;omega)) hb5.size;have qy0:w5.cell? ⟨w.heap.size,0,none⟩=some (.int .i64 2):=(hb5.cell (p:=⟨w.heap.size,0,none⟩) (by first | (simp [hg0];done) | (simp [hg0];omega) | (simp;omega))).trans (by simp [go_sem, *]);have qy1:w5.cell? ⟨w.heap.size,1,none⟩=some (.string i):=(hb5.cell (p:=⟨w.heap.size,1,none⟩) (by first | (simp [hg0];done) | (simp [hg0];omega) | (simp;omega))).trans (by simp [go_sem, *]);have qy2:w5.cell? ⟨w.heap.size,2,none⟩=some (.string l):=(hb5.cell (p:=⟨w.heap.size,2,none⟩) (by first | (simp [hg0];done) | (simp [hg0];omega) | (simp;omega))).trans (by simp [go_sem, *]);have qy3:w5.cell? ⟨w.heap.size,3,none⟩=some (.int .i64 s):=(hb5.cell (p:=⟨w.heap.size,3,none⟩) (by first | (simp [hg0];done) | (simp [hg0];omega) | (simp;omega))).trans (by simp [go_sem, *]);have qy4:w5.cell? ⟨w.heap.size,4,none⟩=some (.int .i64 t):=(hb5.cell (p:=⟨w.heap.size,4,none⟩) (by first | (simp [hg0];done) | (simp [hg0];omega) | (simp;omega))).trans (by simp [go_sem, *]);have qy5:w5.cell? ⟨w.heap.size,5,none⟩=some (.int .i64 e):=(hb5.cell (p:=⟨w.heap.size,5,none⟩) (by first | (simp [hg0];done) | (simp [hg0];omega) | (simp;omega))).trans (by simp [go_sem, *]);have qy6:w5.cell? ⟨w.heap.size,6,none⟩=some (.slice A xs.length c):=(hb5.cell (p:=⟨w.heap.size,6,none⟩) (by first | (simp [hg0];done) | (simp [hg0];omega) | (simp;omega))).trans (by simp [go_sem, *]);have ry0:w5.cell? ⟨w.heap.size+1,0,none⟩=some (.int .i64 2):=(hb5.cell (p:=⟨w.heap.size+1,0,none⟩) (by first | (simp [hg0];done) | (simp [hg0];omega) | (simp;omega))).trans (by simp [go_sem, *]);have ry1:w5.cell? ⟨w.heap.size+1,1,none⟩=some (.string i):=(hb5.cell (p:=⟨w.heap.size+1,1,none⟩) (by first | (simp [hg0];done) | (simp [hg0];omega) | (simp;omega))).trans (by simp [go_sem, *]);have ry2:w5.cell? ⟨w.heap.size+1,2,none⟩=some (.string ByteArray.empty):=(hb5.cell (p:=⟨w.heap.size+1,2,none⟩) (by first | (simp [hg0];done) | (simp [hg0];omega) | (simp;omega))).trans (by simp [go_sem, *]);have ry3:w5.cell? ⟨w.heap.size+1,3,none⟩=some (.int .i64 s):=(hb5.cell (p:=⟨w.heap.size+1,3,none⟩) (by first | (simp [hg0];done) | (simp [hg0];omega) | (simp;omega))).trans (by simp [go_sem, *])
   have ry4:w5.cell? ⟨w.heap.size+1,4,none⟩=some (.int .i64 t):=(hb5.cell (p:=⟨w.heap.size+1,4,none⟩) (by first | (simp [hg0];done) | (simp [hg0];omega) | (simp;omega))).trans (by simp [go_sem, *]);have ry5:w5.cell? ⟨w.heap.size+1,5,none⟩=some (.int .i64 e):=(hb5.cell (p:=⟨w.heap.size+1,5,none⟩) (by first | (simp [hg0];done) | (simp [hg0];omega) | (simp;omega))).trans (by simp [go_sem, *]);have ry6:w5.cell? ⟨w.heap.size+1,6,none⟩=some (.slice none 0 0):=(hb5.cell (p:=⟨w.heap.size+1,6,none⟩) (by first | (simp [hg0];done) | (simp [hg0];omega) | (simp;omega))).trans (by simp [go_sem, *]);have fgy:∀ j,w5.frozen? ⟨w.heap.size,j,none⟩=false:=fun j=>(hb5.frozen (p:=⟨w.heap.size,j,none⟩) (by first | (simp [hg0];done) | (simp [hg0];omega) | (simp;omega))).trans (by simp [go_sem, *])
   clear hb5;clear d0 d1 d2 d3 d4 d5 d6 hfr0;cases hB2:(c7withinB t 16 && c7withinB s t) with
   | true =>
    have HB2:=Lh_ hB2;clear hB2;go_wp2_with fail;refine (c7within_any e t _).mono ?_;rintro e' w' ⟨rfl,rfl⟩;cases hB3:(decide (1≤e) && decide (e≤t)) with
    | true =>
     have HB3:=Lh_ (show c7withinB e t=true from hB3);clear hB3;go_wp2_with fail;refine (isID_any i _ hi).mono ?_;rintro e' w6 ⟨rfl,hb6⟩;have hbwz:Below w.heap.size w w6:=Below.trans (b:=_) (by (repeat first | refine Below.setCell ?_ (by first | (simp [hg0];done) | (simp [hg0];omega) | (simp;omega)) _ | refine Below.drew ?_ | refine Below.alloc ?_ (by first | (simp [hg0];done) | (simp [hg0];omega) | (simp;omega)) _);exact hbwy) (hb6.mono (by first | (simp [hg0];done) | (simp [hg0];omega) | (simp;omega)));have hsz:w.heap.size+2≤w6.heap.size:=Nat.le_trans (by first | (simp [hg0];done) | (simp [hg0];omega) | (simp;omega)) hb6.size;have qz0:w6.cell? ⟨w.heap.size,0,none⟩=some (.int .i64 2):=(hb6.cell (p:=⟨w.heap.size,0,none⟩) (by first | (simp [hg0];done) | (simp [hg0];omega) | (simp;omega))).trans (by simp [go_sem, *]);have qz1:w6.cell? ⟨w.heap.size,1,none⟩=some (.string i):=(hb6.cell (p:=⟨w.heap.size,1,none⟩) (by first | (simp [hg0];done) | (simp [hg0];omega) | (simp;omega))).trans (by simp [go_sem, *]);have qz2:w6.cell? ⟨w.heap.size,2,none⟩=some (.string l):=(hb6.cell (p:=⟨w.heap.size,2,none⟩) (by first | (simp [hg0];done) | (simp [hg0];omega) | (simp;omega))).trans (by simp [go_sem, *]);have qz3:w6.cell? ⟨w.heap.size,3,none⟩=some (.int .i64 s):=(hb6.cell (p:=⟨w.heap.size,3,none⟩) (by first | (simp [hg0];done) | (simp [hg0];omega) | (simp;omega))).trans (by simp [go_sem, *]);have qz4:w6.cell? ⟨w.heap.size,4,none⟩=some (.int .i64 t):=(hb6.cell (p:=⟨w.heap.size,4,none⟩) (by first | (simp [hg0];done) | (simp [hg0];omega) | (simp;omega))).trans (by simp [go_sem, *]);have qz5:w6.cell? ⟨w.heap.size,5,none⟩=some (.int .i64 e):=(hb6.cell (p:=⟨w.heap.size,5,none⟩) (by first | (simp [hg0];done) | (simp [hg0];omega) | (simp;omega))).trans (by simp [go_sem, *]);have qz6:w6.cell? ⟨w.heap.size,6,none⟩=some (.slice none 0 0):=(hb6.cell (p:=⟨w.heap.size,6,none⟩) (by first | (simp [hg0];done) | (simp [hg0];omega) | (simp;omega))).trans (by simp [go_sem, *]);have rz0:w6.cell? ⟨w.heap.size+1,0,none⟩=some (.int .i64 2):=(hb6.cell (p:=⟨w.heap.size+1,0,none⟩) (by first | (simp [hg0];done) | (simp [hg0];omega) | (simp;omega))).trans (by simp [go_sem, *]);have rz1:w6.cell? ⟨w.heap.size+1,1,none⟩=some (.string i):=(hb6.cell (p:=⟨w.heap.size+1,1,none⟩) (by first | (simp [hg0];done) | (simp [hg0];omega) | (simp;omega))).trans (by simp [go_sem, *]);have rz2:w6.cell? ⟨w.heap.size+1,2,none⟩=some (.string ByteArray.empty):=(hb6.cell (p:=⟨w.heap.size+1,2,none⟩) (by first | (simp [hg0];done) | (simp [hg0];omega) | (simp;omega))).trans (by simp [go_sem, *]);have rz3:w6.cell? ⟨w.heap.size+1,3,none⟩=some (.int .i64 s):=(hb6.cell (p:=⟨w.heap.size+1,3,none⟩) (by first | (simp [hg0];done) | (simp [hg0];omega) | (simp;omega))).trans (by simp [go_sem, *])
     have rz4:w6.cell? ⟨w.heap.size+1,4,none⟩=some (.int .i64 t):=(hb6.cell (p:=⟨w.heap.size+1,4,none⟩) (by first | (simp [hg0];done) | (simp [hg0];omega) | (simp;omega))).trans (by simp [go_sem, *]);have rz5:w6.cell? ⟨w.heap.size+1,5,none⟩=some (.int .i64 e):=(hb6.cell (p:=⟨w.heap.size+1,5,none⟩) (by first | (simp [hg0];done) | (simp [hg0];omega) | (simp;omega))).trans (by simp [go_sem, *]);have rz6:w6.cell? ⟨w.heap.size+1,6,none⟩=some (.slice none 0 0):=(hb6.cell (p:=⟨w.heap.size+1,6,none⟩) (by first | (simp [hg0];done) | (simp [hg0];omega) | (simp;omega))).trans (by simp [go_sem, *]);have fgz:∀ j,w6.frozen? ⟨w.heap.size,j,none⟩=false:=fun j=>(hb6.frozen (p:=⟨w.heap.size,j,none⟩) (by first | (simp [hg0];done) | (simp [hg0];omega) | (simp;omega))).trans (by simp [go_sem, *])
     clear hb6;clear qy0 qy1 qy2 qy3 qy4 qy5 qy6 ry0 ry1 ry2 ry3 ry4 ry5 ry6;cases hid:idB i with
     | false =>
      have HI:=Lh_ hid;clear hid;go_wp2;go_ret;exact ⟨ret_bool (by rw [alikeB,if_neg (by decide),HI.out];simp),hbwz⟩
     | true =>
      have HI:=Lh_ hid;clear hid;have hcall:=Same_any (.mk 2 i l s t e []) (.mk 2 i ByteArray.empty s t e []) _ _ w6 (CRd_iff.2 ⟨none,0,rfl,HOK.out,Sl.nil_⟩) (CRd_iff.2 ⟨none,0,rfl,by have:=HOK.out;unfold okInt maxLen at *;simp at *;omega,Sl.nil_⟩);have HCALL:=Lh_ hcall;clear hcall;go_wp2_with fail;refine HCALL.out.mono ?_;rintro e' w7 ⟨rfl,hb7⟩;have hz:sameC (.mk 2 i l s t e []) (usedC (.mk 2 i l s t e xs))=sameC (.mk 2 i l s t e []) (.mk 2 i ByteArray.empty s t e []):=by rw [usedC];simp
      obtain ⟨z,hz2⟩:∃ z,sameC (.mk 2 i l s t e []) (.mk 2 i ByteArray.empty s t e [])=z:=⟨_,rfl⟩;rw [hz2] at hz ⊢;have HZ:=Lh_ hz;clear hz hz2;go_wp2;go_ret;exact ⟨ret_bool (by rw [alikeB,if_neg (by decide),HCOND.out,HB2.out,HB3.out,HI.out,HZ.out];simp),hbwz.trans (hb7.mono hbwz.size)⟩
    | false =>
     have HB3:=Lh_ (show c7withinB e t=false from hB3);clear hB3;go_wp2;go_ret;exact ⟨ret_bool (by rw [alikeB,if_neg (by decide),HCOND.out,HB2.out,HB3.out];simp),hbwy⟩
   | false =>
    have HB2:=Lh_ hB2;clear hB2;go_wp2;go_ret;exact ⟨ret_bool (by rw [alikeB,if_neg (by decide),HCOND.out,HB2.out];simp),hbwy⟩
 ·
  have hlenb:((xs.length:Int) != 1)=true:=by simp;omega
  have hcond:condC (.mk 2 i l s t e xs)=false:=by unfold condC;simp [hlen]
  have HCOND:=Lh_ hcond;clear hcond hlen;go_enter Tryz.func149,Tryz.ntmps149;go_wp2_with fail;go_region
  go_wp2_with fail;go_region
  all_goals
   go_wp2;go_ret;exact ⟨ret_bool (by rw [alikeB,if_neg (by decide),HCOND.out];simp),(by (repeat first | refine Below.setCell ?_ (by first | (simp [hg0];done) | (simp [hg0];omega) | (simp;omega)) _ | refine Below.drew ?_ | refine Below.alloc ?_ (by first | (simp [hg0];done) | (simp [hg0];omega) | (simp;omega)) _);exact hb0)⟩
set_option maxRecDepth 100000 in
set_option maxHeartbeats 8000000 in
theorem alike_other (k:Int) (i l:ByteArray) (s t e:Int) (xs:List Cont) (cs:List Value) (w:World) (h:CRd w w.heap.size (.mk k i l s t e xs) cs) (hk0:¬ k=0) (hk1:¬ k=1) (hk2:¬ k=2) (hk3:¬ k=3) (hk4:¬ k=4) (hk5:¬ k=5):Calls Tryz.prog 149 #[.agg cs.toArray] w fun e' w'=>e'=.returned (.bool (alikeB (.mk k i l s t e xs)))∧Below w.heap.size w w':=by
 obtain ⟨A,c,rfl,hok,hsl⟩:=CRd_iff.1 h;have hzv:=(zero_of_info (P:=Tryz.prog) (t:=72) info_cont2).1;simp only [contCells];obtain ⟨w0,hw0⟩:∃ w0,w.alloc (.cells #[.int .i64 k,.string i,.string l,.int .i64 s,.int .i64 t,.int .i64 e,.slice A xs.length c] 72)=w0:=⟨_,rfl⟩;obtain ⟨hb0,hg0,hbox⟩:=box7 hw0;obtain ⟨d0,d1,d2,d3,d4,d5,d6⟩:=hbox.zero;have hfr0:∀ j,w0.frozen? ⟨w.heap.size,j,none⟩=false:=fun j=>box7f hw0 j
 have hnc:=hsl.1;have hcm:=hsl.2.1;have HC:=Lh_ (show condC (.mk k i l s t e xs)=condC (.mk k i l s t e xs) from rfl);have HOK:=Lh_ hok;have hi:=hok.2.1;have hl:=hok.2.2.1;have hrd:=CRd_more (show w.heap.size≤w0.heap.size by omega) _ _ (CRd_keep hb0 _ _ h);clear h hsl hbox hok;have b0:(k == 0)=false:=by simpa using hk0
 have b1:(k == 1)=false:=by simpa using hk1
 have b2:(k == 2)=false:=by simpa using hk2
 have b3:(k == 3)=false:=by simpa using hk3
 have b4:(k == 4)=false:=by simpa using hk4
 have b5:(k == 5)=false:=by simpa using hk5
 have hcond:alikeB (.mk k i l s t e xs)=false:=by unfold alikeB condC;simp [hk0,hk1,hk2,hk3,hk4,hk5]
 have HCOND:=Lh_ hcond;clear hcond;go_enter Tryz.func149,Tryz.ntmps149;go_wp2_with fail;go_region
 go_wp2;go_ret;exact ⟨ret_bool (by rw [HCOND.out]),(by (repeat first | refine Below.setCell ?_ (by first | (simp [hg0];done) | (simp [hg0];omega) | (simp;omega)) _ | refine Below.drew ?_ | refine Below.alloc ?_ (by first | (simp [hg0];done) | (simp [hg0];omega) | (simp;omega)) _);exact hb0)⟩
end Go.Proofs.YtjgllhlilbchpaaGreatDoor
namespace Go.Cold
open Go Go.RowKit
mutual
theorem depth_le_nodes:∀ a:Cont,depthC a≤nodesC a
 | .mk k _ _ _ _ _ xs=>by
  have:=depthL_le_nodes xs;rw [depthC,nodesC];split <;> omega
theorem depthL_le_nodes:∀ xs:List Cont,depthL xs≤nodesL xs
 | []=>by rw [depthL,nodesL];omega
 | x :: xs=>by
  have:=depth_le_nodes x;have:=depthL_le_nodes xs;rw [depthL,nodesL];omega
end
noncomputable def badC (a:Cont):Bool:=decide (6<depthC a) || (walkC a).any (fun x=>!alikeB x)
noncomputable def checkE (a:Cont):Int:=if badC a then 70 else 0
theorem checkE_bad {a:Cont} (h:badC a=true):checkE a=70:=by rw [checkE,if_pos h]
theorem checkE_ok {a:Cont} (h:badC a=false):checkE a=0:=by rw [checkE,h];rfl
end Go.Cold
namespace Go.Proofs.YtjgllhlilbchpaaGreatDoor
open Go.RowKit Go.Cold

theorem alike_any (a:Cont) (cs:List Value) (w:World) (h:CRd w w.heap.size a cs):Calls Tryz.prog 149 #[.agg cs.toArray] w fun e' w'=>e'=.returned (.bool (alikeB a))∧Below w.heap.size w w':=by
 obtain ⟨k,i,l,s,t,e,xs⟩:=a;by_cases h0:k=0
 · subst h0;exact alike_none i l s t e xs cs w h
 by_cases h1:k=1
 · subst h1;exact alike_file i l s t e xs cs w h
 by_cases h2:k=2
 · subst h2;exact alike_raid i l s t e xs cs w h
 by_cases h3:k=3
 · subst h3;exact alike_crypt i l s t e xs cs w h
 by_cases h4:k=4
 · subst h4;exact alike_group i l s t e xs cs w h
 by_cases h5:k=5
 · subst h5;exact alike_table i l s t e xs cs w h
 exact alike_other k i l s t e xs cs w h h0 h1 h2 h3 h4 h5

theorem check1_any (a:Cont) (cs:List Value) (w:World) (h:CRd w w.heap.size a cs):Calls Tryz.prog 148 #[.agg cs.toArray] w fun e' w'=>e'=.returned (.bool (!alikeB a))∧Below w.heap.size w w':=by
 obtain ⟨k,i,l,s,t,e,xs⟩:=a;obtain ⟨A,c,rfl,-,-⟩:=CRd_iff.1 h;simp only [contCells];obtain ⟨w0,hw0⟩:∃ w0,w.alloc (.cells #[.int .i64 k,.string i,.string l,.int .i64 s,.int .i64 t,.int .i64 e,.slice A xs.length c] 72)=w0:=⟨_,rfl⟩;obtain ⟨hb0,hg0,hbox⟩:=box7 hw0;obtain ⟨d0,d1,d2,d3,d4,d5,d6⟩:=hbox.zero;have hcall:=alike_any _ _ w0 (CRd_more (by omega) _ _ (CRd_keep hb0 _ _ h));have HCALL:=Lh_ hcall;clear hcall h hbox;go_enter Tryz.func148,Tryz.ntmps148;go_wp2_with fail;refine HCALL.out.mono ?_;rintro e' w2 ⟨rfl,hb2⟩;obtain ⟨z,hz⟩:∃ z,alikeB (.mk k i l s t e xs)=z:=⟨_,rfl⟩;rw [hz];have HZ:=Lh_ hz;clear hz;go_wp2;go_ret;exact ⟨ret_bool (by rw [HZ.out]),hb0.trans (hb2.mono (by omega))⟩
theorem check_pred (w:World):PredC 148 #[] w (fun x=>!alikeB x) :=
 ⟨enters_of Tryz.func148 (by kernel_rfl) rfl,fun x cs W hx _=>by simpa using check1_any x cs W hx⟩

theorem c7Check_any (a:Cont) (cs:List Value) (w:World) (h:CRd w w.heap.size a cs) (hn:nodesC a≤2 ^ 40) :
  Calls Tryz.prog 106 #[.agg cs.toArray] w fun e' w'=>e'=.returned (.int .i64 (checkE a))∧Below w.heap.size w w':=by
 have hd:depthC a≤2 ^ 60:=by have:=depth_le_nodes a;omega
 have hcells:∃ k i l s t e A n c,cs=contCells k i l s t e A n c:=by
  obtain ⟨k,i,l,s,t,e,xs⟩:=a;obtain ⟨A,c,rfl,-,-⟩:=CRd_iff.1 h;exact ⟨_,_,_,_,_,_,_,_,_,rfl⟩
 obtain ⟨k,i,l,s,t,e,A,n,c,rfl⟩:=hcells;simp only [contCells];obtain ⟨w0,hw0⟩:∃ w0,w.alloc (.cells #[.int .i64 k,.string i,.string l,.int .i64 s,.int .i64 t,.int .i64 e,.slice A n c] 72)=w0:=⟨_,rfl⟩;obtain ⟨hb0,hg0,hbox⟩:=box7 hw0;obtain ⟨d0,d1,d2,d3,d4,d5,d6⟩:=hbox.zero;have hr0:=CRd_more (show w.heap.size≤w0.heap.size by omega) _ _ (CRd_keep hb0 _ _ h);have hcall:=Depth_any _ _ w0 hr0 hd;have HCALL:=Lh_ hcall;clear hcall h;have HR:=Lh_ hr0;clear hr0;have HN:=Lh_ hn;clear hn hd;have HB:=Lh_ hbox;clear hbox;go_enter Tryz.func106,Tryz.ntmps106;go_wp2_with fail;refine HCALL.out.mono ?_;rintro e' w2 ⟨rfl,hb2⟩;clear d0 d1 d2 d3 d4 d5 d6;obtain ⟨d0,d1,d2,d3,d4,d5,d6⟩:=(HB.out.keep hb2 (by omega)).zero;obtain ⟨z,hz⟩:∃ z,depthC a=z:=⟨_,rfl⟩;rw [hz];have HZ:=Lh_ hz;clear hz;have hb02:Below w.heap.size w w2:=hb0.trans (hb2.mono (by omega));by_cases h6:6<z
 ·
  have h6':decide (6<z)=true:=by simpa using h6
  go_wp2;go_ret;exact ⟨ret_int (checkE_bad (by rw [badC,HZ.out,h6'];simp)).symm,hb02⟩
 ·
  have h6':decide (6<z)=false:=by simpa using h6
  have hw:=Walk_any a _ w2 (CRd_more hb2.size _ _ (CRd_keep hb2 _ _ HR.out)) HN.out;have HW:=Lh_ hw;clear hw;go_wp2_with fail;refine HW.out.mono ?_;rintro e' w3 ⟨v,rfl,hown,hb3⟩;obtain ⟨A3,c3,rfl,hsl⟩:=hown.sl;have HSL:=Lh_ hsl;clear hsl hown;have hb03:=hb02.trans (hb3.mono hb02.size);go_wp2_with fail;refine (ContainsFuncC_any A3 c3 (walkC a) _ _ _ w3 HSL.out (check_pred w3)).mono ?_;rintro e' w4 ⟨rfl,hb4⟩;have hb04:=hb03.trans (hb4.mono hb03.size);cases hq:(walkC a).any (fun x=>!alikeB x) with
  | true =>
   have HQ:=Lh_ hq;clear hq;go_wp2;go_ret;exact ⟨ret_int (checkE_bad (by rw [badC,HQ.out];simp)).symm,hb04⟩
  | false =>
   have HQ:=Lh_ hq;clear hq;go_wp2;go_ret;exact ⟨ret_int (checkE_ok (by rw [badC,HQ.out,HZ.out,h6'];simp)).symm,hb04⟩
end Go.Proofs.YtjgllhlilbchpaaGreatDoor
namespace Go.Proofs.YtjgllhlilbchpaaGreatDoor
open Go.RowKit Go.Cold

theorem IndexByte_at (t:ByteArray) (T:List UInt8) (hT:t.data.toList=T) (x:UInt8) (w:World):Calls Tryz.prog 63 #[.string t,.int .u8 x.toNat] w fun e w'=>e=.returned (.int .i64 (Lib.indexByte T x))∧w'=w:=by
 refine (Tryz.strings_IndexByte t x.toNat w).mono ?_;rintro e w' ⟨rfl,rfl⟩;rw [hT,show ((x.toNat:Int).toNat).toUInt8=x by simp];exact ⟨rfl,rfl⟩

theorem RID_any (s:ByteArray) (w:World) (hs:s.size≤maxLen):Calls Tryz.prog 189 #[.string s] w fun e w'=>e=.returned (.bool (idB s))∧w=w':=by
 unfold maxLen at hs;go_enter Tryz.func189,Tryz.ntmps189;go_wp2_with fail;go_loop [3] (fun i=>∃ k:Nat,k≤s.size∧i=.int .i64 k∧Hid ((s.data.toList.take k).all idL.contains=true)) (fun i=>s.size - (intOf i).toNat)
 case atStart=>exact ⟨0,Nat.zero_le _,rfl,rfl⟩
 case round =>
  obtain ⟨k,hk,rfl,HA⟩:=hrel;by_cases hlt:k<s.size
  ·
   obtain ⟨x,hx⟩:∃ x:UInt8,s[k]'hlt=x:=⟨_,rfl⟩
   have hxl:s.data.toList[k]? = some x:=by rw [← hx];exact Lib.data_getElem? s k hlt
   have HX:=Lh_ hxl;clear hxl;go_wp2_with fail;refine (IndexByte_at _ idL rfl x _).mono ?_;rintro e w' ⟨rfl,rfl⟩;have hin:=Lib.contains_iff_indexByte idL x;obtain ⟨z,hz⟩:∃ z,Lib.indexByte idL x=z:=⟨_,rfl⟩;rw [hz] at hin ⊢;have HIN:=Lh_ hin;clear hin hz;by_cases hz0:z<0
   ·
    have hc:idL.contains x=false:=by rw [HIN.out];simp;omega
    have HC:=Lh_ hc;clear hc;go_wp2;go_ret;exact ⟨ret_bool (by rw [idB,show inB idL s=false from all_stop HX.out HC.out];simp),rfl⟩
   ·
    have hc:idL.contains x=true:=by rw [HIN.out];simp;omega
    have HC:=Lh_ hc;clear hc;go_wp2;go_round
    case rel=>exact ⟨k+1,by omega,by go_num,all_step HA.out HX.out HC.out⟩
    case measure=>simp [intOf];omega
  ·
   have hall:inB idL s=true:=all_end HA.out (by rw [ba_size];omega)
   cases he:s.toList.isEmpty with
   | true =>
    have he':s.toList=[]:=by simpa using he
    have HE:=Lh_ he;clear he;go_wp2;go_ret;exact ⟨ret_bool (by rw [idB,HE.out];rfl),rfl⟩
   | false =>
    have he':¬ s.toList=[]:=by simpa using he
    have he2:(!s.toList.isEmpty)=true:=by rw [he];rfl
    have HALL:=Lh_ hall;clear hall;go_wp2;go_ret;exact ⟨ret_bool (by rw [idB,HALL.out,he];simp),rfl⟩
end Go.Proofs.YtjgllhlilbchpaaGreatDoor
