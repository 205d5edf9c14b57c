/-
  strings.IndexRune at a rune that is no ASCII,in ASCII texts;strings.IndexAny at every text,ASCII sets.
-/
import Derived.Test.YtjgllhlilbchpaaGreatDoorQShf
import Derived.Shelf.Strings.IndexAnyAll
import Derived.Laws.RangeAny
import Derived.Laws.Runes
import Derived.Lib.MapLaws
import Derived.WalkMore
import Derived.Deep.DeepMust
import Derived.Test.YtjgllhlilbchpaaGreatDoorQTK
import Derived.Lib.OthersKept
import Derived.Test.YtjgllhlilbchpaaGreatDoorQSC
import Derived.Test.YtjgllhlilbchpaaGreatDoorQSB
import Derived.Deep.DeepCutAuto
set_option linter.unusedSimpArgs false
set_option linter.unusedVariables false
namespace Go.Proofs.YtjgllhlilbchpaaGreatDoor
open Go.RowKit Go.Lib Go.Shelf

theorem quiet_sameX {P:Program} {f:FuncId} {args:Array Value} {w:World} {n:Nat} {v:Value}
  (h:Calls P f args (w.drewN n) fun e w'=>e=.returned v∧w'=w.drewN n):Calls P f args (w.drewN n) fun e w''=>e=.returned v∧∃ m,w''=w.drewN m :=
 h.mono fun _ _ ⟨he,hm⟩=>⟨he,n,hm⟩
theorem byte_none (c:UInt8):∀ l:List UInt8,(∀ b ∈ l,b≠c)→Lib.indexByte l c = -1
 | [],_=>rfl
 | b :: l,h=>by
  have h2:(b == c)=false:=by simpa using h b List.mem_cons_self
  rw [Lib.indexByte,h2,byte_none c l (fun x hx=>h x (List.mem_cons_of_mem _ hx))];rfl
theorem ascii_mem {s:ByteArray} (h:∀ (j:Nat) b,s.data.toList[j]? = some b→b.toNat<128):∀ b ∈ s.data.toList,b.toNat<128:=fun b hb=>by
 obtain ⟨j,hj,e⟩:=List.getElem_of_mem hb;exact h j b (by rw [List.getElem?_eq_getElem hj,e])

set_option maxHeartbeats 4000000 in
set_option maxRecDepth 1000000 in
theorem IndexRune_bad (s:ByteArray) (w:World) (hascii:∀ (j:Nat) b,s.data.toList[j]? = some b→b.toNat<128) :
  Calls Tryz.prog 185 #[.string s,.int .i32 65533] w fun e w'=>e=.returned (.int .i64 (-1))∧∃ pos,w'=w.iter s pos:=by
 have HA:=Lib.hid hascii;clear hascii;go_enter Tryz.func185,Tryz.ntmps185;go_wp2_with fail;go_loopg [5,6] s.size (fun g _ _ wx=>∃ i:Nat,i+g=s.size∧wx=w.iter s i)
 case atStart=>exact ⟨0,by omega,rfl⟩
 case round =>
  obtain ⟨i,hig,rfl⟩:=hrel;cases gk with
  | zero =>
   obtain rfl:i=s.size:=by omega
   have hnx:=fun ty=>run_next_end (P:=Tryz.prog) w s s.size ty (by omega)
   go_wp2;go_ret;exact ⟨rfl,_,rfl⟩
  | succ g =>
   have hi:i<s.size:=by omega
   obtain ⟨x,hx⟩:∃ x:UInt8,s[i]'hi=x:=⟨_,rfl⟩;have hxl:s.data.toList[i]? = some x:=by rw [← hx];exact Lib.data_getElem? s i hi
   have hx128:x.toNat<128:=HA.out i x hxl;have hnx:=fun ty=>run_next_ascii (P:=Tryz.prog) w s i ty hi (by rw [hx];exact hx128)
   rw [hx] at hnx;have hne:((x.toNat:Int) == 65533)=false:=beq_eq_false_iff_ne.2 (by omega);clear hxl hx hx128;go_wp2_with fail;go_roundg g
   case measure=>omega
   case rel=>exact ⟨i+1,by omega,rfl⟩

set_option maxHeartbeats 4000000 in
set_option maxRecDepth 1000000 in
theorem IndexRune_wide (s:ByteArray) (r:Int) (w:World) (hs:s.size≤1000) (hascii:∀ (j:Nat) b,s.data.toList[j]? = some b→b.toNat<128) (hr:128≤r) (hne:r≠65533) (hv:Utf8.valid r=true) :
  Calls Tryz.prog 185 #[.string s,.int .i32 r] w fun e w'=>e=.returned (.int .i64 (-1))∧Below w.heap.size w w':=by
 obtain ⟨z1,z2,z3⟩:=encode_facts r hv hr;obtain ⟨rs,hrs⟩:∃ rs,Utf8.encode r=rs:=⟨_,rfl⟩;rw [hrs] at z1 z2 z3;have hvr:Lib.validRune r=true:=by
  have h:=(Go.validRune_eq r).symm.trans hv;unfold Go.validRune at h;unfold Lib.validRune;simpa using h
 have hne2:(r == 65533)=false:=beq_eq_false_iff_ne.2 hne;have hr0:(0:Int)≤r:=by omega
 have hr1:¬ r<(128:Int):=by omega
 have u21:=Tryz.underlying21;have u9:=Tryz.underlying9;have HA:=Lib.hid hascii;clear hascii;go_enter Tryz.func185,Tryz.ntmps185;go_wp2_with fail;refine (Tryz.utf8_ValidRune r _).mono ?_;rintro e w1 ⟨rfl,hw1⟩;subst hw1;rw [hvr];go_wp2_with fail;go_step3
 go_wp2_with fail;obtain ⟨n,hn⟩:∃ n,rs.size=n+1:=⟨rs.size - 1,by omega⟩;have hn2:(rs.size:Int) - 1=(n:Int):=by omega
 simp only [hn2];apply wp_loop_once
 by_cases hlt:s.size≤n
 ·
  have i1:(s.size:Int)≤(n:Int):=by omega
  go_wp2_with fail;rw [Exit.noGoto_ret];go_ret;exact ⟨rfl,Below.refl _ _⟩
 ·
  have hi:n<s.size:=by omega
  have hi2:n<rs.size:=by omega
  have i1:(n:Int)<(s.size:Int):=by omega
  have i2:(n:Int)<(rs.size:Int):=by omega
  obtain ⟨m,hm⟩:∃ m,n+1=m:=⟨_,rfl⟩;have i3:(m:Int)≤(s.size:Int):=by omega
  have hwr:IntKind.i64.wrap ((n:Int)+1)=(m:Int):=by rw [wrap_small _ (by omega) (by omega)];omega
  obtain ⟨x,hx⟩:∃ x:UInt8,s[n]'hi=x:=⟨_,rfl⟩;obtain ⟨y,hy⟩:∃ y:UInt8,rs[n]'hi2=y:=⟨_,rfl⟩;have hxl:s.data.toList[n]? = some x:=by rw [← hx];exact Lib.data_getElem? s n hi
  have hx128:x.toNat<128:=HA.out n x hxl;have hy128:128≤y.toNat:=by
   have h:=z3 (by omega);have e:rs.size - 1=n:=by omega
   simp only [e,hy] at h;exact h
  have hneq:((x.toNat:Int) != (y.toNat:Int))=true:=by
   rw [bne_iff_ne];omega
  have hnone:Lib.indexByte (s.extract m s.size).data.toList y = -1:=byte_none _ _ fun b hb e=>by
   have h1:=ascii_mem HA.out b (by rw [Lib.extract_data] at hb;exact List.mem_of_mem_drop (List.mem_of_mem_take hb));rw [e] at h1;omega
  have hback:((y.toNat:Int)).toNat.toUInt8=y:=by simp
  have hib:∀ W:World,Calls Tryz.prog 63 #[.string (s.extract m s.size),.int .u8 (y.toNat:Int)] W fun e w'=>e=.returned (.int .i64 (-1))∧w'=W:=fun W=>(Tryz.strings_IndexByte (s.extract m s.size) (y.toNat:Int) W).mono fun e w' ⟨h1,h2⟩=>⟨by rw [h1,hback,hnone],h2⟩
  clear hxl hx128 hnone hback z3 hn hn2 hv hrs;go_wp2_with fail;go_step3
  go_wp2_with fail;go_quiet (fail)
  obtain ⟨w2,hw2⟩:∃ w2,w1.drewN nq=w2:=⟨_,rfl⟩;rw [hw2];go_wp2_with fail;go_quiet ((go_at_call 63;go_must (exact quiet_sameX (hib _))))
  go_wp2_with fail;rw [Exit.noGoto_ret];go_wp2_with fail;all_goals rw [Exit.noGoto_ret]
  go_ret;subst hw2;exact ⟨rfl,rfl,rfl,rfl,Nat.le_refl _,fun _ _=>rfl⟩
end Go.Proofs.YtjgllhlilbchpaaGreatDoor
namespace Go.Cold
open Go Go.RowKit
theorem get_of_list {s:ByteArray} {j:Nat} {b:UInt8} (h:s.data.toList[j]? = some b):s.get! j=b:=by
 obtain ⟨d⟩:=s;have hj:j<d.toList.length:=(List.getElem?_eq_some_iff.1 h).1;have h1:d.toList[j]? = some b:=h;rw [List.getElem?_eq_getElem hj] at h1;have h2:d[j]'(by simpa using hj)=b:=by simpa using h1
 show d[j]! = b
 rw [getElem!_pos d j (by simpa using hj),h2]
theorem wide_step (s:ByteArray) (pos:Nat) (h:pos<s.size) (ha:128≤(s[pos]'h).toNat) :
  128≤(Utf8.decode s pos).1∧Utf8.valid ((Utf8.decode s pos).1:Int)=true∧1≤(Utf8.decode s pos).2∧pos+(Utf8.decode s pos).2≤s.size∧
  ∀ j,pos≤j→j<pos+(Utf8.decode s pos).2→∀ b,s.data.toList[j]? = some b→128≤b.toNat:=by
 have hg:s.get! pos=s[pos]'h:=by have:=get_at s pos h;simpa using this
 have hb:∀ k,(s.get! (pos+k)).toNat<256:=fun k=>(s.get! (pos+k)).toNat_lt
 have h0:=hb 0;have h1:=hb 1;have h2:=hb 2;have h3:=hb 3;rw [Nat.add_zero] at h0;rw [← hg] at ha;have hval:∀ n:Nat,(n<55296∨(57344≤n∧n≤1114111))→Utf8.valid (n:Int)=true:=fun n hn=>by
  unfold Utf8.valid;rcases hn with hn | hn
  ·
   have e1:decide ((0:Int)≤n)=true:=decide_eq_true (by omega)
   have e2:decide ((n:Int)<55296)=true:=decide_eq_true (by omega);rw [e1,e2];rfl
  ·
   have e1:decide ((57344:Int)≤n)=true:=decide_eq_true (by omega)
   have e2:decide ((n:Int)≤1114111)=true:=decide_eq_true (by omega);rw [e1,e2];simp
 rw [Lib.decode_at];have hj:∀ j b,s.data.toList[j]? = some b→s.get! j=b:=fun j b hb=>get_of_list hb
 rcases Lib.decodeN_shape (s.size - pos) (s.get! pos).toNat (s.get! (pos+1)).toNat (s.get! (pos+2)).toNat (s.get! (pos+3)).toNat with ⟨c1,e⟩ | ⟨c1,c2,c3,c4,e⟩ | ⟨c1,c2,c3,c4,c5,c6,e⟩ | ⟨c1,c2,c3,c4,c5,c6,c7,e⟩ | e
 · omega
 ·
  rw [e]
  refine ⟨c4,hval _ (by omega),by simp,by simp;omega,fun j hj1 hj2 b hb=>?_⟩;have:=hj j b hb;simp only at hj2;have hc:j=pos∨j=pos+1:=by omega
  rcases hc with rfl | rfl <;> (rw [← this];omega)
 ·
  rw [e]
  refine ⟨by simp only;omega,hval _ (by omega),by simp,by simp;omega,fun j hj1 hj2 b hb=>?_⟩;have:=hj j b hb;simp only at hj2;have hc:j=pos∨j=pos+1∨j=pos+2:=by omega
  rcases hc with rfl | rfl | rfl <;> (rw [← this];omega)
 ·
  rw [e]
  refine ⟨by simp only;omega,hval _ (by omega),by simp,by simp;omega,fun j hj1 hj2 b hb=>?_⟩;have:=hj j b hb;simp only at hj2;have hc:j=pos∨j=pos+1∨j=pos+2∨j=pos+3:=by omega
  rcases hc with rfl | rfl | rfl | rfl <;> (rw [← this];omega)
 ·
  rw [e]
  refine ⟨by simp,hval _ (by omega),by simp,by simp;omega,fun j hj1 hj2 b hb=>?_⟩;have:=hj j b hb;simp only at hj2;have hc:j=pos:=by omega
  subst hc;rw [← this];omega
end Go.Cold
namespace Go.Proofs.YtjgllhlilbchpaaGreatDoor
open Go.RowKit Go.Lib Go.Cold

def runeAt (chars:ByteArray) (x:UInt8):Int:=if x.toNat<128 then Lib.indexByte chars.data.toList x else -1
theorem IndexRune_dec (chars s:ByteArray) (pos:Nat) (hp:pos<s.size) (W:World) (hcs:chars.size≤1000) (hac:∀ (j:Nat) b,chars.data.toList[j]? = some b→b.toNat<128) :
  Calls Tryz.prog 185 #[.string chars,.int .i32 ((Utf8.decode s pos).1:Int)] W fun e w'=>e=.returned (.int .i64 (runeAt chars (s[pos]'hp)))∧Below W.heap.size W w':=by
 unfold runeAt;by_cases hx:(s[pos]'hp).toNat<128
 ·
  rw [if_pos hx,decode_ascii s pos hp hx]
  refine (Tryz.strings_IndexRune_ascii chars _ W (by simp) (by simp;omega)).mono fun e w' ⟨h1,h2⟩=>⟨?_,by rw [h2];exact Below.refl _ _⟩
  rw [h1];simp
 ·
  rw [if_neg hx]
  obtain ⟨h1,h2,-⟩:=wide_step s pos hp (by omega);by_cases hb:(Utf8.decode s pos).1=65533
  ·
   rw [hb]
   exact (IndexRune_bad chars W hac).mono fun e w' ⟨h1,p,h2⟩=>⟨h1,by rw [h2];exact (Below.refl _ _).alloc (Nat.le_refl _) _⟩
  · exact IndexRune_wide chars _ W hcs hac (by omega) (by omega) h2

theorem NoAny_wide {s:ByteArray} {chars:List UInt8} {i n:Nat} (h:Lib.NoAny s.data.toList chars i) (hc:∀ b ∈ chars,b.toNat<128)
  (hw:∀ j,i≤j→j<i+n→∀ b,s.data.toList[j]? = some b→128≤b.toNat):Lib.NoAny s.data.toList chars (i+n):=fun j b hj hb=>by
 by_cases hji:j<i
 · exact h j b hji hb
 ·
  have h1:=hw j (by omega) hj b hb
  cases hcc:chars.contains b with
  | false=>rfl
  | true=>have:=hc b (List.contains_iff_mem.1 hcc);omega

theorem next_no {s chars:ByteArray} {i:Nat} (hi:i<s.size) (hm:∀ b ∈ chars.data.toList,b.toNat<128) (hno:Lib.NoAny s.data.toList chars.data.toList i) :
  1≤(Utf8.decode s i).2∧i+(Utf8.decode s i).2≤s.size∧(¬ 0≤runeAt chars (s[i]'hi)→Lib.NoAny s.data.toList chars.data.toList (i+(Utf8.decode s i).2)):=by
 by_cases hx:(s[i]'hi).toNat<128
 ·
  rw [decode_ascii s i hi hx]
  refine ⟨Nat.le_refl _,hi,fun hr=>?_⟩;unfold runeAt at hr;rw [if_pos hx] at hr;exact hno.succ (Lib.data_getElem? s i hi) (by rw [Lib.contains_iff_indexByte];exact decide_eq_false hr)
 ·
  obtain ⟨-,-,h1,h2,h3⟩:=wide_step s i hi (by omega)
  exact ⟨h1,h2,fun _=>NoAny_wide hno hm h3⟩
theorem next_hit {s chars:ByteArray} {i:Nat} (hi:i<s.size) (hno:Lib.NoAny s.data.toList chars.data.toList i) (hr:0≤runeAt chars (s[i]'hi)) :
  Lib.indexAny s.data.toList chars.data.toList=i:=by
 unfold runeAt at hr;by_cases hx:(s[i]'hi).toNat<128
 ·
  rw [if_pos hx] at hr
  exact Lib.indexAny_hit hno (Lib.data_getElem? s i hi) (by rw [Lib.contains_iff_indexByte];exact decide_eq_true hr)
 · rw [if_neg hx] at hr;omega

set_option maxHeartbeats 8000000 in
set_option maxRecDepth 1000000 in
theorem IndexAny_short (s chars:ByteArray) (w:World) (h2:2≤chars.size) (h8:s.size≤8) (hcs:chars.size≤1000) (hac:∀ (j:Nat) b,chars.data.toList[j]? = some b→b.toNat<128) :
  Calls Tryz.prog 153 #[.string s,.string chars] w fun e w'=>e=.returned (.int .i64 (Lib.indexAny s.data.toList chars.data.toList))∧Below w.heap.size w w':=by
 have HA:=Lh_ hac;have HM:=Lh_ (ascii_mem hac);have HD:=Lh_ fun pos hp W=>IndexRune_dec chars s pos hp W hcs hac
 clear hac;have hemp:chars.toList.isEmpty=false:=by
  rw [Lib.toList_data];cases h:chars.data.toList with
  | nil=>have:=Lib.size_eq chars;rw [h,List.length_nil] at this;omega
  | cons _ _=>rfl
 have hn1:((chars.size:Int) == 1)=false:=beq_eq_false_iff_ne.2 (by omega);have h8z:decide ((8:Int)<(s.size:Int))=false:=decide_eq_false (by omega);have hk0:(w.iter s 0).heap[w.heap.size]? = some (.stringIter s 0):=World.iter_heap w s 0;have hb0:Below w.heap.size w (w.iter s 0):=(Below.refl _ w).alloc (Nat.le_refl _) _;have HK0:=Lh_ hk0;have HB0:=Lh_ hb0;clear hk0 hb0;have hsu:=Tryz.strings_shouldUseASCIISet (s.size:Int) w;go_enter Tryz.func153,Tryz.ntmps153;go_wp2_with (go_at_call 186;refine hsu.mono ?_;rintro e w' ⟨rfl,hw⟩;rw [hw,h8z]);clear hsu;go_loopg [9,10] s.size (fun g _ _ wx=>∃ i:Nat,i+g≤s.size∧s.size≤i+g∧wx.heap[w.heap.size]? = some (.stringIter s i)∧Below w.heap.size w wx∧Lib.NoAny s.data.toList chars.data.toList i)
 case atStart=>exact ⟨0,by omega,by omega,HK0.out,HB0.out,Lib.NoAny.zero _ _⟩
 case round =>
  obtain ⟨i,hig,hig2,hk,hb,hno⟩:=hrel;by_cases hi:i<s.size
  ·
   obtain ⟨n1,n2,n3⟩:=next_no hi HM.out hno
   have n4:=next_hit hi hno;have hnx:=fun ty=>Lib.run_next_any_at (P:=Tryz.prog) wr w.heap.size s i ty hk hi
   have hk1:=Lib.iterAt_heap wr w.heap.size s i (i+(Utf8.decode s i).2) hk;have hb1:Below w.heap.size w (wr.iterAt w.heap.size s (i+(Utf8.decode s i).2)):=Lib.below_iterAt hb (Nat.le_refl _) s _;have hlt:w.heap.size<(wr.iterAt w.heap.size s (i+(Utf8.decode s i).2)).heap.size:=(Array.getElem?_eq_some_iff.1 hk1).1;have hc:=HD.out i hi (wr.iterAt w.heap.size s (i+(Utf8.decode s i).2));obtain ⟨W1,hW1⟩:∃ W1,wr.iterAt w.heap.size s (i+(Utf8.decode s i).2)=W1:=⟨_,rfl⟩;obtain ⟨d,hd⟩:∃ d,(Utf8.decode s i).2=d:=⟨_,rfl⟩;obtain ⟨c,hcc⟩:∃ c:Int,((Utf8.decode s i).1:Int)=c:=⟨_,rfl⟩;obtain ⟨z,hz⟩:∃ z,runeAt chars (s[i]'hi)=z:=⟨_,rfl⟩;rw [hW1] at hk1 hb1 hlt hc hnx;simp only [hcc] at hc hnx;rw [hd] at n1 n2 n3 hk1;rw [hz] at n3 n4 hc;have HK1:=Lh_ hk1;have HB1:=Lh_ hb1;have HLT:=Lh_ hlt;have N3:=Lh_ n3;have N4:=Lh_ n4;clear hk hb hno hk1 hb1 hlt n3 n4 hW1 hd hcc hz;by_cases hz0:0≤z
   ·
    go_wp2_with (go_at_call 185;refine hc.mono ?_;rintro e W2 ⟨rfl,hb2⟩)
    go_ret;exact ⟨by rw [N4.out hz0];rfl,HB1.out.trans (hb2.mono (Nat.le_of_lt HLT.out))⟩
   ·
    go_wp2_with (go_at_call 185;refine hc.mono ?_;rintro e W2 ⟨rfl,hb2⟩)
    go_roundg (gk - d)
    case measure=>omega
    case rel=>exact ⟨i+d,by omega,by omega,(hb2.block _ HLT.out).trans HK1.out,HB1.out.trans (hb2.mono (Nat.le_of_lt HLT.out)),N3.out hz0⟩
  ·
   have hnx:=fun ty=>Lib.run_next_end_at (P:=Tryz.prog) wr w.heap.size s i ty hk hi
   have HNO:=Lh_ hno;have HB:=Lh_ hb;clear hno hb hk;have hie:i=s.size:=by omega
   go_wp2;go_ret;exact ⟨by rw [Lib.indexAny_none (by rw [← Lib.size_eq,← hie];exact HNO.out)];rfl,HB.out⟩

theorem IndexAny_any (s chars:ByteArray) (w:World) (h2:2≤chars.size) (hs:s.size<4294967281) (hcs:chars.size≤1000) (hac:∀ (j:Nat) b,chars.data.toList[j]? = some b→b.toNat<128) :
  Calls Tryz.prog 153 #[.string s,.string chars] w fun e w'=>e=.returned (.int .i64 (Lib.indexAny s.data.toList chars.data.toList))∧Below w.heap.size w w':=by
 by_cases h8:s.size≤8
 · exact IndexAny_short s chars w h2 h8 hcs hac
 ·
  refine (Tryz.strings_IndexAny_long (zero_of_info (P:=Tryz.prog) (t:=190) (v:=.agg (Array.replicate 256 (.bool false))) (n:=256) (by kernel_rfl)).1 s chars w h2 (by omega) hs (by omega) hac).mono fun e w' ⟨h1,h2⟩=>⟨h1,?_⟩
  rw [h2];exact ((Below.refl _ _).alloc (Nat.le_refl _) _).alloc (by simp) _
end Go.Proofs.YtjgllhlilbchpaaGreatDoor
namespace Go.Proofs.YtjgllhlilbchpaaGreatDoor
open Go.RowKit Go.Cold
theorem IxOk_any (s:ByteArray) (hs:s.size≤1000):IxOk s:=by
 intro ends he k hk W;have hall:∀ e ∈ [slashE,(⟨#[58,44,41]⟩:ByteArray),⟨#[58,40,44,41]⟩,⟨#[44,41]⟩],(2≤e.size∧e.size≤1000)∧∀ b ∈ e.data.toList,b.toNat<128:=by decide +kernel
 obtain ⟨⟨h1,h2⟩,h3⟩:=hall ends he;exact IndexAny_any (s.extract k s.size) ends W h1 (by rw [ByteArray.size_extract];omega) h2 (fun j b hb=>h3 b (List.mem_of_getElem? hb))
end Go.Proofs.YtjgllhlilbchpaaGreatDoor
namespace Go.Proofs.YtjgllhlilbchpaaGreatDoor
open Go.RowKit Go.Cold

set_option maxHeartbeats 8000000 in
set_option maxRecDepth 100000 in
theorem rtext_all (N:Nat):∀ (a:Cont) (cs:List Value) (w:World),szC a<N→CRd w w.heap.size a cs→AllOk a→nodesC a≤2 ^ 40→Calls Tryz.prog 113 #[.agg cs.toArray] w fun e' w'=>e'=.returned (.string (textC a))∧Below w.heap.size w w':=by
 induction N with
 | zero=>intro a cs w h;omega
 | succ N ih =>
  intro a cs w hsz hrd hall hnod;obtain ⟨kk,i,l,s,t,e,xs⟩:=a;obtain ⟨A,c,rfl,hok,hsl⟩:=CRd_iff.1 hrd;clear hrd hok;obtain ⟨i0,hi0,hz0,hz1,hz2⟩:=info_parts info_str;have HI0:=Lh_ hi0;clear hi0;have HZ0:=Lh_ hz0;clear hz0;have HZ1:=Lh_ hz1;clear hz1;have HZ2:=Lh_ hz2;clear hz2;have IH:=Lh_ ih;clear ih;have hx1:=hsl.1;have hx2:=hsl.2.1;unfold maxLen at hx2;have HSl:=Lh_ hsl;clear hsl;have HSZ:=Lh_ hsz;clear hsz;have hnL:nodesL xs≤2 ^ 40:=by rw [nodesC] at hnod;omega
  have HNOD:=Lh_ hnL;clear hnod hnL;obtain ⟨hown,hin⟩:=AllOk_mk.1 hall;have HALL:=Lh_ hin;clear hall hin;obtain ⟨hkind,hisz,hlsz,hs0,ht0,he0⟩:=own_nums hown;clear hown;obtain ⟨s,rfl⟩:=Int.eq_ofNat_of_zero_le hs0.1;obtain ⟨t,rfl⟩:=Int.eq_ofNat_of_zero_le ht0.1;obtain ⟨e,rfl⟩:=Int.eq_ofNat_of_zero_le he0.1;have HS0:=Lh_ (show s<100 by omega);have HT0:=Lh_ (show t<100 by omega);have HE0:=Lh_ (show e<100 by omega);have HIS:=Lh_ hisz;have HLS:=Lh_ hlsz;clear hs0 ht0 he0 hisz hlsz;simp only [contCells];obtain ⟨w0,hw0⟩:∃ w0,w.alloc (.cells #[.int .i64 kk,.string i,.string l,.int .i64 s,.int .i64 t,.int .i64 e,.slice A xs.length c] 72)=w0:=⟨_,rfl⟩;obtain ⟨hb0,hg0,hbox⟩:=box7 hw0;obtain ⟨d0,d1,d2,d3,d4,d5,d6⟩:=hbox.zero;have HBOX:=Lh_ hbox;clear hbox;have his:=HIS.out;have hls:=HLS.out;have n1:=numT_size HS0.out;have n2:=numT_size HT0.out;have n3:=numT_size HE0.out;have hbn:∀ n,Below w0.heap.size w0 (w0.drewN n):=fun n=>below_drewN_self w0 _ n
  have HBN:=Lh_ hbn;clear hbn;rcases hkind with rfl | rfl | rfl | rfl | rfl | rfl
  ·
   go_enter Tryz.func113,Tryz.ntmps113
   go_wp2;go_ret;refine ⟨ret_str ?_,hb0⟩;rw [textC];simp
  ·
   go_enter Tryz.func113,Tryz.ntmps113
   go_wp2;go_ret;refine ⟨ret_str ?_,hb0⟩;rw [textC];simp
  ·
   go_enter Tryz.func113,Tryz.ntmps113
   go_wp2_with fail;go_quiet ((first | (go_at_call 48;first | exact quiet_same (itoa_small s HS0.out _) | exact quiet_same (itoa_small t HT0.out _) | exact quiet_same (itoa_small e HE0.out _)) | (rw [if_neg (by first | omega | (simp only [ByteArray.size_append,lit_size];simp;omega))];exact ⟨rfl,rfl⟩)))
   go_wp2_with fail;clear hw0 d0 d1 d2 d3 d4 d5 d6;have hb0':Below w.heap.size w (w0.drewN nq):=hb0.trans ((HBN.out nq).mono (by omega));have HBOX:=Lh_ (HBOX.out.keep (HBN.out nq) (by omega));have hg0:(w0.drewN nq).heap.size=w.heap.size+1:=hg0;have hb0:=hb0';clear hb0' HBN;obtain ⟨w0',hw0'⟩:∃ w0',w0.drewN nq=w0':=⟨_,rfl⟩;rw [hw0'] at hb0 HBOX hg0 ⊢;clear hw0';generalize hgg:w.heap.size=g at *;go_loopw [4,5] (fun v i wr=>∃ k:Nat,k≤xs.length∧i=.int .i64 k∧Hid (wr.ownsRow (g+1) 9 1 v k ((textL (xs.take k)).map Value.string))∧Below w0'.heap.size w0' wr) (fun _ i _=>xs.length - (intOf i).toNat)
   case atStart=>exact ⟨0,Nat.zero_le _,rfl,(by rw [List.take_zero,textL];exact World.ownsRow_nil _ _ _ _),Below.refl _ _⟩
   case round =>
    obtain ⟨k,hk,rfl,HOwn,hb⟩:=hrel;have hbw:Below g w wr:=hb0.trans (hb.mono (by omega));obtain ⟨f0,f1,f2,f3,f4,f5,f6⟩:=(HBOX.out.keep hb (by omega)).zero;by_cases hlt:k<xs.length
    ·
     have hslr:=HSl.out.next (by omega) (hgg ▸ hbw)
     obtain ⟨b3,o3,rfl,hb3,cs,hcs,hcells⟩:=hslr.cont hlt;obtain ⟨x,hx⟩:∃ x,xs[k]=x:=⟨_,rfl⟩;have hxm:x ∈ xs:=hx ▸ List.getElem_mem hlt;have htk:xs.take (k+1)=xs.take k ++ [x]:=by rw [← hx];exact List.take_succ_eq_append_getElem hlt
     rw [hx] at hcs;clear hslr;have hszx:=szC_mem (k:=2) (i:=i) (l:=l) (s:=s) (t:=t) (e:=e) hxm;have hnl:xs.length≤nodesL xs:=nodesL_length xs;have hnx:nodesC x≤2 ^ 40:=by
      have h1:=nodesL_mem hxm;have h2:=HNOD.out;omega
     have hax:=HALL.out x hxm;have hkb:k+1≤2 ^ 40:=by
      have h2:=HNOD.out;omega
     obtain ⟨kk2,i2,l2,s2,t2,e2,xs2⟩:=x;obtain ⟨A2,c2,rfl,hok2,hsl2⟩:=CRd_iff.1 hcs;obtain ⟨c0,c1,c2',c3,c4,c5,c6⟩:=cells7 hcells;have i1:(k:Int)<(xs.length:Int):=by omega
     have hcall:=IH.out (.mk kk2 i2 l2 s2 t2 e2 xs2) _ wr (by have:=HSZ.out;omega) (CRd_more (by have:=hbw.size;omega) _ _ hcs) hax hnx;clear hcells hcs hok2 hsl2 hx hxm hszx hnx hnl hax;have HCALL:=Lh_ hcall;clear hcall;have HTK:=Lh_ htk;clear htk;have HKB:=Lh_ hkb;clear hkb;go_wp2_with fail;refine HCALL.out.mono ?_;rintro e' w3 ⟨rfl,hb3'⟩;clear c0 c1 c2' c3 c4 c5 c6 f0 f1 f2 f3 f4 f5 f6;obtain ⟨T,hT⟩:∃ T,textC (.mk kk2 i2 l2 s2 t2 e2 xs2)=T:=⟨_,rfl⟩;rw [hT];have HT:=Lh_ hT;clear hT;have hbr3:Below wr.heap.size wr w3:=hb3';have HOwn3:=Lh_ (ownsRow_below HOwn.out hbr3);go_wp2_with (at_builtin;go_must (refine wpList_append_own _ rfl _ _ 47 rfl (g+1) 9 i0 (.string ByteArray.empty) 1 16 Tryz.underlying47 HI0.out HZ0.out HZ1.out HZ2.out rfl (by decide) _ _ _ rfl (HOwn3.out.alloc _) ⟨w3.heap.size,0,none⟩ 1 1 [.string T] rfl rfl (cell_one_new _ _ _) (by intro u hu;simp at hu;subst hu;rfl) (by have:=HKB.out;unfold maxLen;omega) (by have:=HKB.out;omega) (by have:=hb.size;have:=hbr3.size;simp;omega) ?_);intro v' w5 hown' hgrow _);have hb5:Below w0'.heap.size w0' w5:=((hb.trans (hbr3.mono hb.size)).alloc (by have:=hb.size;have:=hbr3.size;omega) _).grown hgrow (by have:=hb.size;have:=hbr3.size;simp;omega) (fun q hq=>by have:=(HOwn3.out.lt q hq).1;omega);have HOwn5:=Lh_ hown';clear hown' hgrow;clear hb hbw hbr3 hb3';go_wp2;go_roundw
     case rel =>
      refine ⟨k+1,by omega,by go_num,?_,hb5⟩;show Hid _
      refine Lh_ ?_;rw [HTK.out,textL_app,HT.out,List.map_append];exact HOwn5.out
     case measure=>simp [intOf];omega
    ·
     have hkk:k=xs.length:=by omega
     subst hkk;rw [List.take_length] at HOwn;have hown:=HOwn.out;rw [← textL_length xs] at hown;have hts:=text_sizeL xs HALL.out;obtain ⟨A5,c5,rfl,hsl5⟩:=Sl.ofOwn hown (fun x hx=>by
      obtain ⟨y,hy,rfl⟩:=text_mem hx;have h1:=text_size y (HALL.out y hy);have h2:=nodesL_mem hy;have h3:=HNOD.out;unfold maxLen;omega)
     rw [textL_length];have hjoin:=JoinComma_any A5 c5 (textL xs) wr hsl5 (by have:=HNOD.out;omega) (by have:=HNOD.out;have:=nodesL_length xs;rw [textL_length];omega);rw [textL_length] at hjoin;obtain ⟨J,hJ⟩:∃ J,commaB (textL xs)=J:=⟨_,rfl⟩;have hJs:J.size≤2 ^ 60:=by have:=HNOD.out;rw [← hJ];omega
     have HJS:=Lh_ hJs;clear hJs;rw [hJ] at hjoin;have HJ:=Lh_ hJ;have HJOIN:=Lh_ hjoin;clear hJ hjoin hsl5 hown HOwn hts;go_wp2_with fail;refine HJOIN.out.mono ?_;rintro e' w6 ⟨rfl,hb6⟩;have hb06:Below g w w6:=hbw.trans (hb6.mono (by have:=hbw.size;omega));have HB06:=Lh_ hb06;clear hb06 hb6 hbw f0 f1 f2 f3 f4 f5 f6;have his:=HIS.out;have hls:=HLS.out;have hjs:=HJS.out;have n1:=numT_size HS0.out;have n2:=numT_size HT0.out;have n3:=numT_size HE0.out;go_wp2;go_ret;refine ⟨ret_str ?_,by first | exact HB06.out | (rw [hgg];exact HB06.out)⟩;rw [textC,HJ.out];simp [ByteArray.append_assoc]
  ·
   go_enter Tryz.func113,Tryz.ntmps113
   go_wp2_with fail;clear hw0 d0 d1 d2 d3 d4 d5 d6;generalize hgg:w.heap.size=g at *;go_loopw [4,5] (fun v i wr=>∃ k:Nat,k≤xs.length∧i=.int .i64 k∧Hid (wr.ownsRow (g+1) 9 1 v k ((textL (xs.take k)).map Value.string))∧Below w0.heap.size w0 wr) (fun _ i _=>xs.length - (intOf i).toNat)
   case atStart=>exact ⟨0,Nat.zero_le _,rfl,(by rw [List.take_zero,textL];exact World.ownsRow_nil _ _ _ _),Below.refl _ _⟩
   case round =>
    obtain ⟨k,hk,rfl,HOwn,hb⟩:=hrel;have hbw:Below g w wr:=hb0.trans (hb.mono (by omega));obtain ⟨f0,f1,f2,f3,f4,f5,f6⟩:=(HBOX.out.keep hb (by omega)).zero;by_cases hlt:k<xs.length
    ·
     have hslr:=HSl.out.next (by omega) (hgg ▸ hbw)
     obtain ⟨b3,o3,rfl,hb3,cs,hcs,hcells⟩:=hslr.cont hlt;obtain ⟨x,hx⟩:∃ x,xs[k]=x:=⟨_,rfl⟩;have hxm:x ∈ xs:=hx ▸ List.getElem_mem hlt;have htk:xs.take (k+1)=xs.take k ++ [x]:=by rw [← hx];exact List.take_succ_eq_append_getElem hlt
     rw [hx] at hcs;clear hslr;have hszx:=szC_mem (k:=3) (i:=i) (l:=l) (s:=s) (t:=t) (e:=e) hxm;have hnl:xs.length≤nodesL xs:=nodesL_length xs;have hnx:nodesC x≤2 ^ 40:=by
      have h1:=nodesL_mem hxm;have h2:=HNOD.out;omega
     have hax:=HALL.out x hxm;have hkb:k+1≤2 ^ 40:=by
      have h2:=HNOD.out;omega
     obtain ⟨kk2,i2,l2,s2,t2,e2,xs2⟩:=x;obtain ⟨A2,c2,rfl,hok2,hsl2⟩:=CRd_iff.1 hcs;obtain ⟨c0,c1,c2',c3,c4,c5,c6⟩:=cells7 hcells;have i1:(k:Int)<(xs.length:Int):=by omega
     have hcall:=IH.out (.mk kk2 i2 l2 s2 t2 e2 xs2) _ wr (by have:=HSZ.out;omega) (CRd_more (by have:=hbw.size;omega) _ _ hcs) hax hnx;clear hcells hcs hok2 hsl2 hx hxm hszx hnx hnl hax;have HCALL:=Lh_ hcall;clear hcall;have HTK:=Lh_ htk;clear htk;have HKB:=Lh_ hkb;clear hkb;go_wp2_with fail;refine HCALL.out.mono ?_;rintro e' w3 ⟨rfl,hb3'⟩;clear c0 c1 c2' c3 c4 c5 c6 f0 f1 f2 f3 f4 f5 f6;obtain ⟨T,hT⟩:∃ T,textC (.mk kk2 i2 l2 s2 t2 e2 xs2)=T:=⟨_,rfl⟩;rw [hT];have HT:=Lh_ hT;clear hT;have hbr3:Below wr.heap.size wr w3:=hb3';have HOwn3:=Lh_ (ownsRow_below HOwn.out hbr3);go_wp2_with (at_builtin;go_must (refine wpList_append_own _ rfl _ _ 47 rfl (g+1) 9 i0 (.string ByteArray.empty) 1 16 Tryz.underlying47 HI0.out HZ0.out HZ1.out HZ2.out rfl (by decide) _ _ _ rfl (HOwn3.out.alloc _) ⟨w3.heap.size,0,none⟩ 1 1 [.string T] rfl rfl (cell_one_new _ _ _) (by intro u hu;simp at hu;subst hu;rfl) (by have:=HKB.out;unfold maxLen;omega) (by have:=HKB.out;omega) (by have:=hb.size;have:=hbr3.size;simp;omega) ?_);intro v' w5 hown' hgrow _);have hb5:Below w0.heap.size w0 w5:=((hb.trans (hbr3.mono hb.size)).alloc (by have:=hb.size;have:=hbr3.size;omega) _).grown hgrow (by have:=hb.size;have:=hbr3.size;simp;omega) (fun q hq=>by have:=(HOwn3.out.lt q hq).1;omega);have HOwn5:=Lh_ hown';clear hown' hgrow;clear hb hbw hbr3 hb3';go_wp2;go_roundw
     case rel =>
      refine ⟨k+1,by omega,by go_num,?_,hb5⟩;show Hid _
      refine Lh_ ?_;rw [HTK.out,textL_app,HT.out,List.map_append];exact HOwn5.out
     case measure=>simp [intOf];omega
    ·
     have hkk:k=xs.length:=by omega
     subst hkk;rw [List.take_length] at HOwn;have hown:=HOwn.out;rw [← textL_length xs] at hown;have hts:=text_sizeL xs HALL.out;obtain ⟨A5,c5,rfl,hsl5⟩:=Sl.ofOwn hown (fun x hx=>by
      obtain ⟨y,hy,rfl⟩:=text_mem hx;have h1:=text_size y (HALL.out y hy);have h2:=nodesL_mem hy;have h3:=HNOD.out;unfold maxLen;omega)
     rw [textL_length];have hjoin:=JoinComma_any A5 c5 (textL xs) wr hsl5 (by have:=HNOD.out;omega) (by have:=HNOD.out;have:=nodesL_length xs;rw [textL_length];omega);rw [textL_length] at hjoin;obtain ⟨J,hJ⟩:∃ J,commaB (textL xs)=J:=⟨_,rfl⟩;have hJs:J.size≤2 ^ 60:=by have:=HNOD.out;rw [← hJ];omega
     have HJS:=Lh_ hJs;clear hJs;rw [hJ] at hjoin;have HJ:=Lh_ hJ;have HJOIN:=Lh_ hjoin;clear hJ hjoin hsl5 hown HOwn hts;go_wp2_with fail;refine HJOIN.out.mono ?_;rintro e' w6 ⟨rfl,hb6⟩;have hb06:Below g w w6:=hbw.trans (hb6.mono (by have:=hbw.size;omega));have HB06:=Lh_ hb06;clear hb06 hb6 hbw f0 f1 f2 f3 f4 f5 f6;have his:=HIS.out;have hls:=HLS.out;have hjs:=HJS.out;have n1:=numT_size HS0.out;have n2:=numT_size HT0.out;have n3:=numT_size HE0.out;go_wp2;go_ret;refine ⟨ret_str ?_,by first | exact HB06.out | (rw [hgg];exact HB06.out)⟩;rw [textC,HJ.out];simp [ByteArray.append_assoc]
  ·
   go_enter Tryz.func113,Tryz.ntmps113
   go_wp2_with fail;go_quiet ((first | (go_at_call 48;first | exact quiet_same (itoa_small s HS0.out _) | exact quiet_same (itoa_small t HT0.out _) | exact quiet_same (itoa_small e HE0.out _)) | (rw [if_neg (by first | omega | (simp only [ByteArray.size_append,lit_size];simp;omega))];exact ⟨rfl,rfl⟩)))
   go_wp2_with fail;clear hw0 d0 d1 d2 d3 d4 d5 d6;have hb0':Below w.heap.size w (w0.drewN nq):=hb0.trans ((HBN.out nq).mono (by omega));have HBOX:=Lh_ (HBOX.out.keep (HBN.out nq) (by omega));have hg0:(w0.drewN nq).heap.size=w.heap.size+1:=hg0;have hb0:=hb0';clear hb0' HBN;obtain ⟨w0',hw0'⟩:∃ w0',w0.drewN nq=w0':=⟨_,rfl⟩;rw [hw0'] at hb0 HBOX hg0 ⊢;clear hw0';generalize hgg:w.heap.size=g at *;go_loopw [4,5] (fun v i wr=>∃ k:Nat,k≤xs.length∧i=.int .i64 k∧Hid (wr.ownsRow (g+1) 9 1 v k ((textL (xs.take k)).map Value.string))∧Below w0'.heap.size w0' wr) (fun _ i _=>xs.length - (intOf i).toNat)
   case atStart=>exact ⟨0,Nat.zero_le _,rfl,(by rw [List.take_zero,textL];exact World.ownsRow_nil _ _ _ _),Below.refl _ _⟩
   case round =>
    obtain ⟨k,hk,rfl,HOwn,hb⟩:=hrel;have hbw:Below g w wr:=hb0.trans (hb.mono (by omega));obtain ⟨f0,f1,f2,f3,f4,f5,f6⟩:=(HBOX.out.keep hb (by omega)).zero;by_cases hlt:k<xs.length
    ·
     have hslr:=HSl.out.next (by omega) (hgg ▸ hbw)
     obtain ⟨b3,o3,rfl,hb3,cs,hcs,hcells⟩:=hslr.cont hlt;obtain ⟨x,hx⟩:∃ x,xs[k]=x:=⟨_,rfl⟩;have hxm:x ∈ xs:=hx ▸ List.getElem_mem hlt;have htk:xs.take (k+1)=xs.take k ++ [x]:=by rw [← hx];exact List.take_succ_eq_append_getElem hlt
     rw [hx] at hcs;clear hslr;have hszx:=szC_mem (k:=4) (i:=i) (l:=l) (s:=s) (t:=t) (e:=e) hxm;have hnl:xs.length≤nodesL xs:=nodesL_length xs;have hnx:nodesC x≤2 ^ 40:=by
      have h1:=nodesL_mem hxm;have h2:=HNOD.out;omega
     have hax:=HALL.out x hxm;have hkb:k+1≤2 ^ 40:=by
      have h2:=HNOD.out;omega
     obtain ⟨kk2,i2,l2,s2,t2,e2,xs2⟩:=x;obtain ⟨A2,c2,rfl,hok2,hsl2⟩:=CRd_iff.1 hcs;obtain ⟨c0,c1,c2',c3,c4,c5,c6⟩:=cells7 hcells;have i1:(k:Int)<(xs.length:Int):=by omega
     have hcall:=IH.out (.mk kk2 i2 l2 s2 t2 e2 xs2) _ wr (by have:=HSZ.out;omega) (CRd_more (by have:=hbw.size;omega) _ _ hcs) hax hnx;clear hcells hcs hok2 hsl2 hx hxm hszx hnx hnl hax;have HCALL:=Lh_ hcall;clear hcall;have HTK:=Lh_ htk;clear htk;have HKB:=Lh_ hkb;clear hkb;go_wp2_with fail;refine HCALL.out.mono ?_;rintro e' w3 ⟨rfl,hb3'⟩;clear c0 c1 c2' c3 c4 c5 c6 f0 f1 f2 f3 f4 f5 f6;obtain ⟨T,hT⟩:∃ T,textC (.mk kk2 i2 l2 s2 t2 e2 xs2)=T:=⟨_,rfl⟩;rw [hT];have HT:=Lh_ hT;clear hT;have hbr3:Below wr.heap.size wr w3:=hb3';have HOwn3:=Lh_ (ownsRow_below HOwn.out hbr3);go_wp2_with (at_builtin;go_must (refine wpList_append_own _ rfl _ _ 47 rfl (g+1) 9 i0 (.string ByteArray.empty) 1 16 Tryz.underlying47 HI0.out HZ0.out HZ1.out HZ2.out rfl (by decide) _ _ _ rfl (HOwn3.out.alloc _) ⟨w3.heap.size,0,none⟩ 1 1 [.string T] rfl rfl (cell_one_new _ _ _) (by intro u hu;simp at hu;subst hu;rfl) (by have:=HKB.out;unfold maxLen;omega) (by have:=HKB.out;omega) (by have:=hb.size;have:=hbr3.size;simp;omega) ?_);intro v' w5 hown' hgrow _);have hb5:Below w0'.heap.size w0' w5:=((hb.trans (hbr3.mono hb.size)).alloc (by have:=hb.size;have:=hbr3.size;omega) _).grown hgrow (by have:=hb.size;have:=hbr3.size;simp;omega) (fun q hq=>by have:=(HOwn3.out.lt q hq).1;omega);have HOwn5:=Lh_ hown';clear hown' hgrow;clear hb hbw hbr3 hb3';go_wp2;go_roundw
     case rel =>
      refine ⟨k+1,by omega,by go_num,?_,hb5⟩;show Hid _
      refine Lh_ ?_;rw [HTK.out,textL_app,HT.out,List.map_append];exact HOwn5.out
     case measure=>simp [intOf];omega
    ·
     have hkk:k=xs.length:=by omega
     subst hkk;rw [List.take_length] at HOwn;have hown:=HOwn.out;rw [← textL_length xs] at hown;have hts:=text_sizeL xs HALL.out;obtain ⟨A5,c5,rfl,hsl5⟩:=Sl.ofOwn hown (fun x hx=>by
      obtain ⟨y,hy,rfl⟩:=text_mem hx;have h1:=text_size y (HALL.out y hy);have h2:=nodesL_mem hy;have h3:=HNOD.out;unfold maxLen;omega)
     rw [textL_length];have hjoin:=JoinComma_any A5 c5 (textL xs) wr hsl5 (by have:=HNOD.out;omega) (by have:=HNOD.out;have:=nodesL_length xs;rw [textL_length];omega);rw [textL_length] at hjoin;obtain ⟨J,hJ⟩:∃ J,commaB (textL xs)=J:=⟨_,rfl⟩;have hJs:J.size≤2 ^ 60:=by have:=HNOD.out;rw [← hJ];omega
     have HJS:=Lh_ hJs;clear hJs;rw [hJ] at hjoin;have HJ:=Lh_ hJ;have HJOIN:=Lh_ hjoin;clear hJ hjoin hsl5 hown HOwn hts;go_wp2_with fail;refine HJOIN.out.mono ?_;rintro e' w6 ⟨rfl,hb6⟩;have hb06:Below g w w6:=hbw.trans (hb6.mono (by have:=hbw.size;omega));have HB06:=Lh_ hb06;clear hb06 hb6 hbw f0 f1 f2 f3 f4 f5 f6;have his:=HIS.out;have hls:=HLS.out;have hjs:=HJS.out;have n1:=numT_size HS0.out;have n2:=numT_size HT0.out;have n3:=numT_size HE0.out;go_wp2;go_ret;refine ⟨ret_str ?_,by first | exact HB06.out | (rw [hgg];exact HB06.out)⟩;rw [textC,HJ.out];simp [ByteArray.append_assoc]
  ·
   go_enter Tryz.func113,Tryz.ntmps113
   go_wp2_with fail;clear hw0 d0 d1 d2 d3 d4 d5 d6;generalize hgg:w.heap.size=g at *;go_loopw [4,5] (fun v i wr=>∃ k:Nat,k≤xs.length∧i=.int .i64 k∧Hid (wr.ownsRow (g+1) 9 1 v k ((textL (xs.take k)).map Value.string))∧Below w0.heap.size w0 wr) (fun _ i _=>xs.length - (intOf i).toNat)
   case atStart=>exact ⟨0,Nat.zero_le _,rfl,(by rw [List.take_zero,textL];exact World.ownsRow_nil _ _ _ _),Below.refl _ _⟩
   case round =>
    obtain ⟨k,hk,rfl,HOwn,hb⟩:=hrel;have hbw:Below g w wr:=hb0.trans (hb.mono (by omega));obtain ⟨f0,f1,f2,f3,f4,f5,f6⟩:=(HBOX.out.keep hb (by omega)).zero;by_cases hlt:k<xs.length
    ·
     have hslr:=HSl.out.next (by omega) (hgg ▸ hbw)
     obtain ⟨b3,o3,rfl,hb3,cs,hcs,hcells⟩:=hslr.cont hlt;obtain ⟨x,hx⟩:∃ x,xs[k]=x:=⟨_,rfl⟩;have hxm:x ∈ xs:=hx ▸ List.getElem_mem hlt;have htk:xs.take (k+1)=xs.take k ++ [x]:=by rw [← hx];exact List.take_succ_eq_append_getElem hlt
     rw [hx] at hcs;clear hslr;have hszx:=szC_mem (k:=5) (i:=i) (l:=l) (s:=s) (t:=t) (e:=e) hxm;have hnl:xs.length≤nodesL xs:=nodesL_length xs;have hnx:nodesC x≤2 ^ 40:=by
      have h1:=nodesL_mem hxm;have h2:=HNOD.out;omega
     have hax:=HALL.out x hxm;have hkb:k+1≤2 ^ 40:=by
      have h2:=HNOD.out;omega
     obtain ⟨kk2,i2,l2,s2,t2,e2,xs2⟩:=x;obtain ⟨A2,c2,rfl,hok2,hsl2⟩:=CRd_iff.1 hcs;obtain ⟨c0,c1,c2',c3,c4,c5,c6⟩:=cells7 hcells;have i1:(k:Int)<(xs.length:Int):=by omega
     have hcall:=IH.out (.mk kk2 i2 l2 s2 t2 e2 xs2) _ wr (by have:=HSZ.out;omega) (CRd_more (by have:=hbw.size;omega) _ _ hcs) hax hnx;clear hcells hcs hok2 hsl2 hx hxm hszx hnx hnl hax;have HCALL:=Lh_ hcall;clear hcall;have HTK:=Lh_ htk;clear htk;have HKB:=Lh_ hkb;clear hkb;go_wp2_with fail;refine HCALL.out.mono ?_;rintro e' w3 ⟨rfl,hb3'⟩;clear c0 c1 c2' c3 c4 c5 c6 f0 f1 f2 f3 f4 f5 f6;obtain ⟨T,hT⟩:∃ T,textC (.mk kk2 i2 l2 s2 t2 e2 xs2)=T:=⟨_,rfl⟩;rw [hT];have HT:=Lh_ hT;clear hT;have hbr3:Below wr.heap.size wr w3:=hb3';have HOwn3:=Lh_ (ownsRow_below HOwn.out hbr3);go_wp2_with (at_builtin;go_must (refine wpList_append_own _ rfl _ _ 47 rfl (g+1) 9 i0 (.string ByteArray.empty) 1 16 Tryz.underlying47 HI0.out HZ0.out HZ1.out HZ2.out rfl (by decide) _ _ _ rfl (HOwn3.out.alloc _) ⟨w3.heap.size,0,none⟩ 1 1 [.string T] rfl rfl (cell_one_new _ _ _) (by intro u hu;simp at hu;subst hu;rfl) (by have:=HKB.out;unfold maxLen;omega) (by have:=HKB.out;omega) (by have:=hb.size;have:=hbr3.size;simp;omega) ?_);intro v' w5 hown' hgrow _);have hb5:Below w0.heap.size w0 w5:=((hb.trans (hbr3.mono hb.size)).alloc (by have:=hb.size;have:=hbr3.size;omega) _).grown hgrow (by have:=hb.size;have:=hbr3.size;simp;omega) (fun q hq=>by have:=(HOwn3.out.lt q hq).1;omega);have HOwn5:=Lh_ hown';clear hown' hgrow;clear hb hbw hbr3 hb3';go_wp2;go_roundw
     case rel =>
      refine ⟨k+1,by omega,by go_num,?_,hb5⟩;show Hid _
      refine Lh_ ?_;rw [HTK.out,textL_app,HT.out,List.map_append];exact HOwn5.out
     case measure=>simp [intOf];omega
    ·
     have hkk:k=xs.length:=by omega
     subst hkk;rw [List.take_length] at HOwn;have hown:=HOwn.out;rw [← textL_length xs] at hown;have hts:=text_sizeL xs HALL.out;obtain ⟨A5,c5,rfl,hsl5⟩:=Sl.ofOwn hown (fun x hx=>by
      obtain ⟨y,hy,rfl⟩:=text_mem hx;have h1:=text_size y (HALL.out y hy);have h2:=nodesL_mem hy;have h3:=HNOD.out;unfold maxLen;omega)
     rw [textL_length];have hjoin:=JoinComma_any A5 c5 (textL xs) wr hsl5 (by have:=HNOD.out;omega) (by have:=HNOD.out;have:=nodesL_length xs;rw [textL_length];omega);rw [textL_length] at hjoin;obtain ⟨J,hJ⟩:∃ J,commaB (textL xs)=J:=⟨_,rfl⟩;have hJs:J.size≤2 ^ 60:=by have:=HNOD.out;rw [← hJ];omega
     have HJS:=Lh_ hJs;clear hJs;rw [hJ] at hjoin;have HJ:=Lh_ hJ;have HJOIN:=Lh_ hjoin;clear hJ hjoin hsl5 hown HOwn hts;go_wp2_with fail;refine HJOIN.out.mono ?_;rintro e' w6 ⟨rfl,hb6⟩;have hb06:Below g w w6:=hbw.trans (hb6.mono (by have:=hbw.size;omega));have HB06:=Lh_ hb06;clear hb06 hb6 hbw f0 f1 f2 f3 f4 f5 f6;have his:=HIS.out;have hls:=HLS.out;have hjs:=HJS.out;have n1:=numT_size HS0.out;have n2:=numT_size HT0.out;have n3:=numT_size HE0.out;go_wp2;go_ret;refine ⟨ret_str ?_,by first | exact HB06.out | (rw [hgg];exact HB06.out)⟩;rw [textC,HJ.out];simp [ByteArray.append_assoc]
theorem rtext_any (a:Cont) (cs:List Value) (w:World) (h:CRd w w.heap.size a cs) (ha:AllOk a) (hn:nodesC a≤2 ^ 40):Calls Tryz.prog 113 #[.agg cs.toArray] w fun e' w'=>e'=.returned (.string (textC a))∧Below w.heap.size w w' :=
 rtext_all _ a cs w (Nat.lt_succ_self _) h ha hn
end Go.Proofs.YtjgllhlilbchpaaGreatDoor
namespace Go.Proofs.YtjgllhlilbchpaaGreatDoor
open Go.RowKit Go.Cold

set_option maxHeartbeats 16000000 in
set_option maxRecDepth 100000 in
theorem rvalid_all (N:Nat):∀ (a:Cont) (cs:List Value) (d:Nat) (w:World),szC a<N→CRd w w.heap.size a cs→d≤100→Calls Tryz.prog 157 #[.agg cs.toArray,.int .i64 d] w fun e' w'=>e'=.returned (.bool (refB d a))∧Below w.heap.size w w':=by
 induction N with
 | zero=>intro a cs d w h;omega
 | succ N ih =>
  intro a cs d w hsz hrd hd;obtain ⟨kk,i,l,s,t,e,xs⟩:=a;obtain ⟨A,c,rfl,hok,hsl⟩:=CRd_iff.1 hrd;clear hrd;have hiz:=hok.2.1;have hlz:=hok.2.2.1;have HIZ:=Lh_ hiz;have HLZ:=Lh_ hlz;clear hiz hlz;have HOK:=Lh_ hok;clear hok;have IH:=Lh_ ih;clear ih;have hx1:=hsl.1;have hx2:=hsl.2.1;unfold maxLen at hx2;have HSl:=Lh_ hsl;clear hsl;have HSZ:=Lh_ hsz;clear hsz;simp only [contCells];obtain ⟨w0,hw0⟩:∃ w0,w.alloc (.cells #[.int .i64 kk,.string i,.string l,.int .i64 s,.int .i64 t,.int .i64 e,.slice A xs.length c] 72)=w0:=⟨_,rfl⟩;obtain ⟨hb0,hg0,hbox⟩:=box7 hw0;obtain ⟨d0,d1,d2,d3,d4,d5,d6⟩:=hbox.zero;go_enter Tryz.func157,Tryz.ntmps157;go_wp2_with fail;have HBOX:=Lh_ hbox;clear hbox hw0 d0 d1 d2 d3 d4 d5 d6;have hrefB:refB d (.mk kk i l s t e xs)=(refL d xs && ((decide (kk=0) || decide (0<d)) && ownB (.mk kk i l s t e xs))):=by rw [refB]
  have HREF:=Lh_ hrefB;clear hrefB;generalize hgg:w.heap.size=g at *;go_loopw [5] (fun i wr=>∃ k:Nat,k≤xs.length∧i=.int .i64 k∧Hid (refL d (xs.take k)=true)∧Below w0.heap.size w0 wr) (fun i _=>xs.length - (intOf i).toNat)
  case atStart=>exact ⟨0,Nat.zero_le _,rfl,(by rw [List.take_zero,refL];exact Lh_ rfl),Below.refl _ _⟩
  case round =>
   obtain ⟨k,hk,rfl,HT,hb⟩:=hrel;have hbw:Below g w wr:=hb0.trans (hb.mono (by omega));obtain ⟨d0,d1,d2,d3,d4,d5,d6⟩:=(HBOX.out.keep hb (by omega)).zero;by_cases hlt:k<xs.length
   ·
    have hslr:=HSl.out.next (by omega) (hgg ▸ hbw)
    obtain ⟨b3,o3,rfl,hb3,cs,hcs,hcells⟩:=hslr.cont hlt;obtain ⟨x,hx⟩:∃ x,xs[k]=x:=⟨_,rfl⟩;have hxm:x ∈ xs:=hx ▸ List.getElem_mem hlt;have htk:xs.take (k+1)=xs.take k ++ [x]:=by rw [← hx];exact List.take_succ_eq_append_getElem hlt
    have hxk:xs[k]? = some x:=by rw [← hx];exact List.getElem?_eq_getElem hlt
    rw [hx] at hcs;clear hslr;have hszx:=szC_mem (k:=kk) (i:=i) (l:=l) (s:=s) (t:=t) (e:=e) hxm;have HTK:=Lh_ htk;have HXK:=Lh_ hxk;clear htk hxk hx hxm;obtain ⟨kk2,i2,l2,s2,t2,e2,xs2⟩:=x;obtain ⟨A2,c2,rfl,hok2,hsl2⟩:=CRd_iff.1 hcs;obtain ⟨c0,c1,c2',c3,c4,c5,c6⟩:=cells7 hcells;have i1:(k:Int)<(xs.length:Int):=by omega
    rcases Nat.eq_zero_or_pos d with hd0 | hd0
    ·
     have hd1:(d:Int)≤0:=by omega
     have HD0:=Lh_ hd0;clear hd0;go_wp2;go_ret;exact ⟨ret_bool (by rw [HREF.out,refL_bad HXK.out (by rw [HD0.out];rfl)];rfl),by first | exact hbw | (rw [hgg];exact hbw)⟩
    ·
     have hcall:=IH.out (.mk kk2 i2 l2 s2 t2 e2 xs2) _ (d - 1) wr (by have:=HSZ.out;omega) (CRd_more (by have:=hbw.size;omega) _ _ hcs) (by omega)
     have HCALL:=Lh_ hcall;clear hcall hcells hcs hok2 hsl2 hszx;have jq2:¬ (d:Int)≤0:=by omega
     have jq3:(d:Int) - 1=((d - 1:Nat):Int):=by omega
     have HD0:=Lh_ hd0;clear hd0;have JQ3:=Lh_ jq3;clear jq3;go_wp2_with fail;rw [JQ3.out];refine HCALL.out.mono ?_;rintro e' w3 ⟨rfl,hb3'⟩;have hb5:Below w0.heap.size w0 w3:=hb.trans (hb3'.mono hb.size);have hb6:Below g w w3:=hb0.trans (hb5.mono (by omega));cases hq:refB (d - 1) (.mk kk2 i2 l2 s2 t2 e2 xs2) with
     | true =>
      have HQ:=Lh_ hq;clear hq;clear c0 c1 c2' c3 c4 c5 c6 d0 d1 d2 d3 d4 d5 d6;go_wp2;go_roundw
      case rel =>
       have hnext:Hid (refL d (xs.take (k+1))=true):=Lh_ (by
        rw [HTK.out,refL_app,HT.out,HQ.out];simp [HD0.out])
       first | exact ⟨k+1,by omega,by go_num,hnext,hb5⟩ | (trace_state;(repeat apply Exists.intro);exact ⟨⟨k+1,by omega,by go_num,hnext,hb5⟩,rfl⟩)
      case measure=>simp [intOf];omega
     | false =>
      have HQ:=Lh_ hq;clear hq;clear c0 c1 c2' c3 c4 c5 c6 d0 d1 d2 d3 d4 d5 d6;go_wp2;go_ret;exact ⟨ret_bool (by rw [HREF.out,refL_bad HXK.out (by rw [HQ.out];simp)];rfl),by first | exact hb6 | (rw [hgg];exact hb6)⟩
   ·
    have hkk:k=xs.length:=by omega
    subst hkk;rw [List.take_length] at HT;have hz0:¬ (xs.length:Int)<(xs.length:Int):=by omega
    have hr2:refB d (.mk kk i l s t e xs)=((decide (kk=0) || decide (0<d)) && ownB (.mk kk i l s t e xs)):=by rw [HREF.out,HT.out];rfl
    have HR2:=Lh_ hr2;clear hr2 HREF HT;go_upto_region 6 with fail
    go_cut [6] (fun cv wx=>cv=.bool (slots2 s t)∧wx=wr)
    case first =>
     by_cases h1:1≤t
     ·
      by_cases h2:t≤16
      ·
       by_cases h3:1≤s
       ·
        by_cases h4:s≤t
        ·
         go_wp2_with fail
         go_meet;exact ⟨by simp [slots2,c7withinB,h1,h2,h3,h4] <;> omega,rfl⟩
        ·
         go_wp2_with fail
         go_meet;exact ⟨by simp [slots2,c7withinB,h1,h2,h3,h4] <;> omega,rfl⟩
       ·
        go_wp2_with fail
        go_meet;exact ⟨by simp [slots2,c7withinB,h1,h2,h3] <;> omega,rfl⟩
      ·
       go_wp2_with fail
       go_meet;exact ⟨by simp [slots2,c7withinB,h1,h2] <;> omega,rfl⟩
     ·
      go_wp2_with fail
      go_meet;exact ⟨by simp [slots2,c7withinB,h1] <;> omega,rfl⟩
    case rest =>
    obtain ⟨hc6,hc7⟩:=hcut;subst hc7;obtain rfl:=hc6;go_upto_region 7 with fail
    go_cut [7] (fun cv wx=>cv=.bool (noneB s t e)∧wx=wc)
    case first =>
     by_cases h1:t=0
     ·
      by_cases h2:s=0
      ·
       by_cases h3:e=0
       ·
        subst h1;subst h2;subst h3
        go_wp2_with fail;go_meet;exact ⟨by simp [noneB] <;> omega,rfl⟩
       ·
        have e3:(e == 0)=false:=by simpa using h3
        subst h1;subst h2;go_wp2_with fail;go_meet;exact ⟨by simp [noneB,h3] <;> omega,rfl⟩
      ·
       have e2:(s == 0)=false:=by simpa using h2
       subst h1;go_wp2_with fail;go_meet;exact ⟨by simp [noneB,h2] <;> omega,rfl⟩
     ·
      have e1:(t == 0)=false:=by simpa using h1
      go_wp2_with fail;go_meet;exact ⟨by simp [noneB,h1] <;> omega,rfl⟩
    case rest =>
    obtain ⟨hc6,hc7⟩:=hcut;subst hc7;obtain rfl:=hc6;obtain ⟨z6,hz6⟩:∃ z,slots2 s t=z:=⟨_,rfl⟩;obtain ⟨z7,hz7⟩:∃ z,noneB s t e=z:=⟨_,rfl⟩;rw [hz6,hz7];have HZ6:=Lh_ hz6;have HZ7:=Lh_ hz7;clear hz6 hz7 hz0 hk;obtain ⟨n,hn⟩:∃ n,xs.length=n:=⟨_,rfl⟩;rw [hn] at d6 ⊢;have HN:=Lh_ hn;rw [hn] at hx1;clear hn;by_cases g0:kk=0
    ·
     subst g0
     cases hi:i.toList.isEmpty with
     | true =>
      have hi1:i.toList=[]:=by simpa using hi
      have HIE:=Lh_ hi;have HIF:=Lh_ hi1;cases hl:l.toList.isEmpty with
      | true =>
       have hl1:l.toList=[]:=by simpa using hl
       have HLE:=Lh_ hl;have HLF:=Lh_ hl1;cases z7 with
       | true =>
        by_cases q0:n=0
        ·
         have b0:((n:Int) == 0)=true:=by simp [q0]
         have Q0:=Lh_ q0;clear q0;go_wp2;go_ret;exact ⟨ret_bool (by rw [HR2.out];simp [ownB,HIF.out,HLF.out,HZ7.out,HN.out,Q0.out] <;> (intros;omega)),by first | assumption | (rw [hgg];assumption)⟩
        ·
         have b0:((n:Int) == 0)=false:=by simp;omega
         have Q0:=Lh_ q0;clear q0;go_wp2;go_ret;exact ⟨ret_bool (by rw [HR2.out];simp [ownB,HIF.out,HLF.out,HZ7.out,HN.out,Q0.out] <;> (intros;omega)),by first | assumption | (rw [hgg];assumption)⟩
       | false =>
        go_wp2;go_ret;exact ⟨ret_bool (by rw [HR2.out];simp [ownB,HIF.out,HLF.out,HZ7.out] <;> (intros;omega)),by first | assumption | (rw [hgg];assumption)⟩
      | false =>
       have hl1:¬ l.toList=[]:=by simpa using hl
       have HLE:=Lh_ hl;have HLF:=Lh_ hl1;go_wp2;go_ret;exact ⟨ret_bool (by rw [HR2.out];simp [ownB,HIF.out,HLF.out] <;> (intros;omega)),by first | assumption | (rw [hgg];assumption)⟩
     | false =>
      have hi1:¬ i.toList=[]:=by simpa using hi
      have HIE:=Lh_ hi;have HIF:=Lh_ hi1;go_wp2;go_ret;exact ⟨ret_bool (by rw [HR2.out];simp [ownB,HIF.out] <;> (intros;omega)),by first | assumption | (rw [hgg];assumption)⟩
    have k0:(kk == 0)=false:=by simpa using g0
    have G0:=Lh_ g0;clear g0;rcases Nat.eq_zero_or_pos d with hd0 | hd0
    ·
     have hd1:(d:Int)≤0:=by omega
     have HD0:=Lh_ hd0;clear hd0;go_wp2;go_ret;exact ⟨ret_bool (by rw [HR2.out];simp [ownB,HD0.out,G0.out] <;> (intros;omega)),by first | assumption | (rw [hgg];assumption)⟩
    have hd1:¬ (d:Int)≤0:=by omega
    have HD0:=Lh_ hd0;clear hd0;go_wp2_with fail;refine (RID_any i _ HIZ.out).mono ?_;rintro e' w' ⟨rfl,rfl⟩;cases hid:idB i with
    | false =>
     have HI:=Lh_ hid;clear hid;go_wp2;go_ret;exact ⟨ret_bool (by rw [HR2.out];simp [ownB,HD0.out,G0.out,HI.out] <;> (intros;omega)),by first | assumption | (rw [hgg];assumption)⟩
    | true =>
     have HI:=Lh_ hid;clear hid;by_cases g1:kk=1
     ·
      subst g1
      cases hl:l.toList.isEmpty with
      | true =>
       have hl1:l.toList=[]:=by simpa using hl
       have HLE:=Lh_ hl;have HLF:=Lh_ hl1;cases z7 with
       | true =>
        by_cases q0:n=0
        ·
         have b0:((n:Int) == 0)=true:=by simp [q0]
         have Q0:=Lh_ q0;clear q0;go_wp2;go_ret;exact ⟨ret_bool (by rw [HR2.out];simp [ownB,HD0.out,HI.out,HLF.out,HZ7.out,HN.out,Q0.out] <;> (intros;omega)),by first | assumption | (rw [hgg];assumption)⟩
        ·
         have b0:((n:Int) == 0)=false:=by simp;omega
         have Q0:=Lh_ q0;clear q0;go_wp2;go_ret;exact ⟨ret_bool (by rw [HR2.out];simp [ownB,HD0.out,HI.out,HLF.out,HZ7.out,HN.out,Q0.out] <;> (intros;omega)),by first | assumption | (rw [hgg];assumption)⟩
       | false =>
        go_wp2;go_ret;exact ⟨ret_bool (by rw [HR2.out];simp [ownB,HD0.out,HI.out,HLF.out,HZ7.out] <;> (intros;omega)),by first | assumption | (rw [hgg];assumption)⟩
      | false =>
       have hl1:¬ l.toList=[]:=by simpa using hl
       have HLE:=Lh_ hl;have HLF:=Lh_ hl1;go_wp2_with fail;refine (RID_any l _ HLZ.out).mono ?_;rintro e' w' ⟨rfl,rfl⟩;cases hil:idB l with
       | true =>
        have HIL:=Lh_ hil;clear hil;cases z7 with
        | true =>
         by_cases q0:n=0
         ·
          have b0:((n:Int) == 0)=true:=by simp [q0]
          have Q0:=Lh_ q0;clear q0;go_wp2;go_ret;exact ⟨ret_bool (by rw [HR2.out];simp [ownB,HD0.out,HI.out,HLF.out,HIL.out,HZ7.out,HN.out,Q0.out] <;> (intros;omega)),by first | assumption | (rw [hgg];assumption)⟩
         ·
          have b0:((n:Int) == 0)=false:=by simp;omega
          have Q0:=Lh_ q0;clear q0;go_wp2;go_ret;exact ⟨ret_bool (by rw [HR2.out];simp [ownB,HD0.out,HI.out,HLF.out,HIL.out,HZ7.out,HN.out,Q0.out] <;> (intros;omega)),by first | assumption | (rw [hgg];assumption)⟩
        | false =>
         go_wp2;go_ret;exact ⟨ret_bool (by rw [HR2.out];simp [ownB,HD0.out,HI.out,HLF.out,HIL.out,HZ7.out] <;> (intros;omega)),by first | assumption | (rw [hgg];assumption)⟩
       | false =>
        have HIL:=Lh_ hil;clear hil;go_wp2;go_ret;exact ⟨ret_bool (by rw [HR2.out];simp [ownB,HD0.out,HI.out,HLF.out,HIL.out] <;> (intros;omega)),by first | assumption | (rw [hgg];assumption)⟩
     have k1:(kk == 1)=false:=by simpa using g1
     have G1:=Lh_ g1;clear g1;by_cases g2:kk=2
     ·
      subst g2
      cases hl:l.toList.isEmpty with
      | true =>
       have hl1:l.toList=[]:=by simpa using hl
       have HLE:=Lh_ hl;have HLF:=Lh_ hl1;cases z6 with
       | true =>
        by_cases re:1≤e
        ·
         have RE3:=Lh_ re
         by_cases rt:e≤t
         ·
          have RT3:=Lh_ rt
          by_cases q1:n=1
          ·
           have b1:((n:Int) == 1)=true:=by simp [q1]
           have Q1:=Lh_ q1;clear q1;go_wp2;go_ret;exact ⟨ret_bool (by rw [HR2.out];simp [ownB,HD0.out,HI.out,HLF.out,HZ6.out,c7withinB,RE3.out,c7withinB,RT3.out,HN.out,Q1.out] <;> (intros;omega)),by first | assumption | (rw [hgg];assumption)⟩
          ·
           have b1:((n:Int) == 1)=false:=by simp;omega
           have Q1:=Lh_ q1;clear q1;go_wp2;go_ret;exact ⟨ret_bool (by rw [HR2.out];simp [ownB,HD0.out,HI.out,HLF.out,HZ6.out,c7withinB,RE3.out,c7withinB,RT3.out,HN.out,Q1.out] <;> (intros;omega)),by first | assumption | (rw [hgg];assumption)⟩
         ·
          have RT3:=Lh_ rt
          go_wp2;go_ret;exact ⟨ret_bool (by rw [HR2.out];simp [ownB,HD0.out,HI.out,HLF.out,HZ6.out,c7withinB,RE3.out,c7withinB,RT3.out] <;> (intros;omega)),by first | assumption | (rw [hgg];assumption)⟩
        ·
         have RE3:=Lh_ re
         go_wp2;go_ret;exact ⟨ret_bool (by rw [HR2.out];simp [ownB,HD0.out,HI.out,HLF.out,HZ6.out,c7withinB,RE3.out] <;> (intros;omega)),by first | assumption | (rw [hgg];assumption)⟩
       | false =>
        go_wp2;go_ret;exact ⟨ret_bool (by rw [HR2.out];simp [ownB,HD0.out,HI.out,HLF.out,HZ6.out] <;> (intros;omega)),by first | assumption | (rw [hgg];assumption)⟩
      | false =>
       have hl1:¬ l.toList=[]:=by simpa using hl
       have HLE:=Lh_ hl;have HLF:=Lh_ hl1;go_wp2;go_ret;exact ⟨ret_bool (by rw [HR2.out];simp [ownB,HD0.out,HI.out,HLF.out] <;> (intros;omega)),by first | assumption | (rw [hgg];assumption)⟩
     have k2:(kk == 2)=false:=by simpa using g2
     have G2:=Lh_ g2;clear g2;by_cases g3:kk=3
     ·
      subst g3
      cases hl:l.toList.isEmpty with
      | true =>
       have hl1:l.toList=[]:=by simpa using hl
       have HLE:=Lh_ hl;have HLF:=Lh_ hl1;cases z7 with
       | true =>
        by_cases q1:n=1
        ·
         have b1:((n:Int) == 1)=true:=by simp [q1]
         have Q1:=Lh_ q1;clear q1;go_wp2;go_ret;exact ⟨ret_bool (by rw [HR2.out];simp [ownB,HD0.out,HI.out,HLF.out,HZ7.out,HN.out,Q1.out] <;> (intros;omega)),by first | assumption | (rw [hgg];assumption)⟩
        ·
         have b1:((n:Int) == 1)=false:=by simp;omega
         have Q1:=Lh_ q1;clear q1;go_wp2;go_ret;exact ⟨ret_bool (by rw [HR2.out];simp [ownB,HD0.out,HI.out,HLF.out,HZ7.out,HN.out,Q1.out] <;> (intros;omega)),by first | assumption | (rw [hgg];assumption)⟩
       | false =>
        go_wp2;go_ret;exact ⟨ret_bool (by rw [HR2.out];simp [ownB,HD0.out,HI.out,HLF.out,HZ7.out] <;> (intros;omega)),by first | assumption | (rw [hgg];assumption)⟩
      | false =>
       have hl1:¬ l.toList=[]:=by simpa using hl
       have HLE:=Lh_ hl;have HLF:=Lh_ hl1;go_wp2;go_ret;exact ⟨ret_bool (by rw [HR2.out];simp [ownB,HD0.out,HI.out,HLF.out] <;> (intros;omega)),by first | assumption | (rw [hgg];assumption)⟩
     have k3:(kk == 3)=false:=by simpa using g3
     have G3:=Lh_ g3;clear g3;by_cases g4:kk=4
     ·
      subst g4
      cases hl:l.toList.isEmpty with
      | true =>
       have hl1:l.toList=[]:=by simpa using hl
       have HLE:=Lh_ hl;have HLF:=Lh_ hl1;cases z6 with
       | true =>
        by_cases r0:e=0
        ·
         have b0:(e == 0)=true:=by simpa using r0
         have R0:=Lh_ r0;clear r0;by_cases qg:1≤(n:Int)
         ·
          have qg2:0<n:=by omega
          have QG3:=Lh_ qg;by_cases ql:(n:Int)≤16
          ·
           have ql2:n≤16:=by omega
           have QL3:=Lh_ ql;go_wp2;go_ret;exact ⟨ret_bool (by rw [HR2.out];simp [ownB,HD0.out,HI.out,HLF.out,HZ6.out,R0.out,c7withinB,HN.out,QG3.out,c7withinB,HN.out,QL3.out] <;> (intros;omega)),by first | assumption | (rw [hgg];assumption)⟩
          ·
           have ql2:¬ n≤16:=by omega
           have QL3:=Lh_ ql;go_wp2;go_ret;exact ⟨ret_bool (by rw [HR2.out];simp [ownB,HD0.out,HI.out,HLF.out,HZ6.out,R0.out,c7withinB,HN.out,QG3.out,c7withinB,HN.out,QL3.out] <;> (intros;omega)),by first | assumption | (rw [hgg];assumption)⟩
         ·
          have qg2:¬ 0<n:=by omega
          have QG3:=Lh_ qg;go_wp2;go_ret;exact ⟨ret_bool (by rw [HR2.out];simp [ownB,HD0.out,HI.out,HLF.out,HZ6.out,R0.out,c7withinB,HN.out,QG3.out] <;> (intros;omega)),by first | assumption | (rw [hgg];assumption)⟩
        ·
         have b0:(e == 0)=false:=by simpa using r0
         have R0:=Lh_ r0;clear r0;go_wp2;go_ret;exact ⟨ret_bool (by rw [HR2.out];simp [ownB,HD0.out,HI.out,HLF.out,HZ6.out,R0.out] <;> (intros;omega)),by first | assumption | (rw [hgg];assumption)⟩
       | false =>
        go_wp2;go_ret;exact ⟨ret_bool (by rw [HR2.out];simp [ownB,HD0.out,HI.out,HLF.out,HZ6.out] <;> (intros;omega)),by first | assumption | (rw [hgg];assumption)⟩
      | false =>
       have hl1:¬ l.toList=[]:=by simpa using hl
       have HLE:=Lh_ hl;have HLF:=Lh_ hl1;go_wp2;go_ret;exact ⟨ret_bool (by rw [HR2.out];simp [ownB,HD0.out,HI.out,HLF.out] <;> (intros;omega)),by first | assumption | (rw [hgg];assumption)⟩
     have k4:(kk == 4)=false:=by simpa using g4
     have G4:=Lh_ g4;clear g4;by_cases g5:kk=5
     ·
      subst g5
      cases hl:l.toList.isEmpty with
      | true =>
       have hl1:l.toList=[]:=by simpa using hl
       have HLE:=Lh_ hl;have HLF:=Lh_ hl1;cases z7 with
       | true =>
        by_cases qg:1≤(n:Int)
        ·
         have qg2:0<n:=by omega
         have QG3:=Lh_ qg;by_cases ql:(n:Int)≤16
         ·
          have ql2:n≤16:=by omega
          have QL3:=Lh_ ql;go_wp2;go_ret;exact ⟨ret_bool (by rw [HR2.out];simp [ownB,HD0.out,HI.out,HLF.out,HZ7.out,c7withinB,HN.out,QG3.out,c7withinB,HN.out,QL3.out] <;> (intros;omega)),by first | assumption | (rw [hgg];assumption)⟩
         ·
          have ql2:¬ n≤16:=by omega
          have QL3:=Lh_ ql;go_wp2;go_ret;exact ⟨ret_bool (by rw [HR2.out];simp [ownB,HD0.out,HI.out,HLF.out,HZ7.out,c7withinB,HN.out,QG3.out,c7withinB,HN.out,QL3.out] <;> (intros;omega)),by first | assumption | (rw [hgg];assumption)⟩
        ·
         have qg2:¬ 0<n:=by omega
         have QG3:=Lh_ qg;go_wp2;go_ret;exact ⟨ret_bool (by rw [HR2.out];simp [ownB,HD0.out,HI.out,HLF.out,HZ7.out,c7withinB,HN.out,QG3.out] <;> (intros;omega)),by first | assumption | (rw [hgg];assumption)⟩
       | false =>
        go_wp2;go_ret;exact ⟨ret_bool (by rw [HR2.out];simp [ownB,HD0.out,HI.out,HLF.out,HZ7.out] <;> (intros;omega)),by first | assumption | (rw [hgg];assumption)⟩
      | false =>
       have hl1:¬ l.toList=[]:=by simpa using hl
       have HLE:=Lh_ hl;have HLF:=Lh_ hl1;go_wp2;go_ret;exact ⟨ret_bool (by rw [HR2.out];simp [ownB,HD0.out,HI.out,HLF.out] <;> (intros;omega)),by first | assumption | (rw [hgg];assumption)⟩
     have k5:(kk == 5)=false:=by simpa using g5
     have G5:=Lh_ g5;clear g5;go_wp2;go_ret;exact ⟨ret_bool (by rw [HR2.out];simp [ownB,HD0.out,HI.out,G0.out,G1.out,G2.out,G3.out,G4.out,G5.out] <;> (intros;omega)),by first | assumption | (rw [hgg];assumption)⟩
theorem rvalid_any (a:Cont) (cs:List Value) (d:Nat) (w:World) (h:CRd w w.heap.size a cs) (hd:d≤100):Calls Tryz.prog 157 #[.agg cs.toArray,.int .i64 d] w fun e' w'=>e'=.returned (.bool (refB d a))∧Below w.heap.size w w' :=
 rvalid_all _ a cs d w (Nat.lt_succ_self _) h hd
end Go.Proofs.YtjgllhlilbchpaaGreatDoor
namespace Go.Proofs.YtjgllhlilbchpaaGreatDoor
open Go.RowKit Go.Cold

set_option maxRecDepth 10000 in
theorem c7RValid_any (a:Cont) (cs:List Value) (w:World) (h:CRd w w.heap.size a cs):Calls Tryz.prog 112 #[.agg cs.toArray] w fun e' w'=>e'=.returned (.bool (!badC a))∧Below w.heap.size w w':=by
 have hcells:∃ k i l s t e A n c,cs=contCells k i l s t e A n c:=by
  obtain ⟨k,i,l,s,t,e,xs⟩:=a;obtain ⟨A,c,rfl,-,-⟩:=CRd_iff.1 h;exact ⟨_,_,_,_,_,_,_,_,_,rfl⟩
 obtain ⟨k,i,l,s,t,e,A,n,c,rfl⟩:=hcells;simp only [contCells];obtain ⟨w0,hw0⟩:∃ w0,w.alloc (.cells #[.int .i64 k,.string i,.string l,.int .i64 s,.int .i64 t,.int .i64 e,.slice A n c] 72)=w0:=⟨_,rfl⟩;obtain ⟨hb0,hg0,hbox⟩:=box7 hw0;obtain ⟨d0,d1,d2,d3,d4,d5,d6⟩:=hbox.zero;have hr0:=CRd_more (show w.heap.size≤w0.heap.size by omega) _ _ (CRd_keep hb0 _ _ h);have hcall:=rvalid_any a _ 6 w0 hr0 (by decide);rw [ref_bad] at hcall;have HCALL:=Lh_ hcall;clear hcall hr0 h hbox;go_enter Tryz.func112,Tryz.ntmps112;go_wp2_with fail;refine Calls.mono (HCALL.out:Calls Tryz.prog 157 #[.agg #[.int .i64 k,.string i,.string l,.int .i64 s,.int .i64 t,.int .i64 e,.slice A n c],.int .i64 6] w0 _) ?_;rintro e' w2 ⟨rfl,hb2⟩;go_wp2;go_ret;exact ⟨rfl,hb0.trans (hb2.mono (by omega))⟩
end Go.Proofs.YtjgllhlilbchpaaGreatDoor
