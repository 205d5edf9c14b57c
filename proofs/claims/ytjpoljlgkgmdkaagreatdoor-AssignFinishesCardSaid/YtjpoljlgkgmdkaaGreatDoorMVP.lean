/-
  The walk of coldplugworld's Assigns.
-/
import Derived.Test.YtjpoljlgkgmdkaaGreatDoorMJ
set_option linter.unusedSimpArgs false
set_option linter.unusedVariables false
namespace Go.Cold
open Go Go.RowKit Go.Proofs.YtjpoljlgkgmdkaaGreatDoor
open Go.Proofs hiding intOf
def asV6:List ByteArray:=[⟨#[49]⟩,⟨#[]⟩,⟨#[37,107]⟩,⟨#[117,49]⟩,⟨#[36,101,110,118,123,73,68,95,65,125,120]⟩]
theorem asV6_small:∀ y ∈ asV6,y.size≤100:=by decide +kernel
def asV7:List ByteArray:=[⟨#[115,101,97,116]⟩,⟨#[120,49]⟩,⟨#[97,32,98]⟩,⟨#[37,107]⟩]
theorem asV7_small:∀ y ∈ asV7,y.size≤100:=by decide +kernel
def asV15:List ByteArray:=[⟨#[108,97,110,37,110]⟩,⟨#[110,101,116,48]⟩,⟨#[97,47,98]⟩,⟨#[37,99]⟩]
theorem asV15_small:∀ y ∈ asV15,y.size≤100:=by decide +kernel
def asV16:List ByteArray:=[⟨#[100,105,115,107,47,37,107]⟩,⟨#[100,105,115,107,47,97,32,100,105,115,107,47,98]⟩,⟨#[98,121,47,36,101,110,118,123,73,68,95,70,83,95,85,85,73,68,125]⟩,⟨#[99,100]⟩,⟨#[46,46,47,120]⟩,⟨#[100,105,115,107]⟩]
theorem asV16_small:∀ y ∈ asV16,y.size≤100:=by decide +kernel
def asV17:List ByteArray:=[⟨#[114,111,111,116]⟩,⟨#[100,105,115,107]⟩,⟨#[97,32,98]⟩,⟨#[37,107]⟩]
theorem asV17_small:∀ y ∈ asV17,y.size≤100:=by decide +kernel
def asV19:List ByteArray:=[⟨#[48,54,54,48]⟩,⟨#[54,54,54]⟩,⟨#[57]⟩,⟨#[36,114,101,115,117,108,116]⟩]
theorem asV19_small:∀ y ∈ asV19,y.size≤100:=by decide +kernel
def asV20:List ByteArray:=[⟨#[97,99,116,32,37,107]⟩,⟨#[]⟩,⟨#[108,111,103]⟩]
theorem asV20_small:∀ y ∈ asV20,y.size≤100:=by decide +kernel
def asV21:List ByteArray:=[⟨#[117,115,98,58,118,49]⟩,⟨#[117,115,98,58,118,50]⟩,⟨#[]⟩,⟨#[36,101,110,118,123,77,79,68,65,76,73,65,83,125]⟩]
theorem asV21_small:∀ y ∈ asV21,y.size≤100:=by decide +kernel
def asV22:List ByteArray:=[⟨#[45,53]⟩,⟨#[48]⟩,⟨#[49,48]⟩,⟨#[49,48,48]⟩]
theorem asV22_small:∀ y ∈ asV22,y.size≤100:=by decide +kernel
theorem envN_small:∀ y ∈ envN,y.size≤100:=by decide +kernel
theorem mkX {key op:Int} {nm v:ByteArray} (hk : -100000≤key∧key≤100000) (ho : -100000≤op∧op≤100000) (hn:nm.size≤100) (hv:v.size≤100) (he:key=6→nm ∈ envN) (ht:key=7→op=3∨op=4∨op=5):OkX ⟨key,nm,op,v⟩ :=
 ⟨⟨okI_small hk.1 hk.2,by show nm.size≤maxLen;unfold maxLen;omega,okI_small ho.1 ho.2,by show v.size≤maxLen;unfold maxLen;omega⟩,he,ht⟩
theorem four_tape {w W:World} {B b g k:Nat} {xs:List Int} (h:TapeAt W B b xs k) (hg:w.grownBy W (some b)) (hne:g≠b) (hB:B≤g) (hw:w.heap.size≤g) (v0 v1 v2 v3:Value) :
  TapeAt ((((W.setCell ⟨g,0,none⟩ v0).setCell ⟨g,1,none⟩ v1).setCell ⟨g,2,none⟩ v2).setCell ⟨g,3,none⟩ v3) B b xs k∧w.grownBy ((((W.setCell ⟨g,0,none⟩ v0).setCell ⟨g,1,none⟩ v1).setCell ⟨g,2,none⟩ v2).setCell ⟨g,3,none⟩ v3) (some b) :=
 ⟨(((h.set_ hne hB v0).set_ hne hB v1).set_ hne hB v2).set_ hne hB v3,grown_set (grown_set (grown_set (grown_set hg hw v0) hw v1) hw v2) hw v3⟩
def As1 (w:World) (B b:Nat) (xs:List Int) (kk:Nat) (W:World):Prop:=TapeAt W B b xs kk∧w.grownBy W (some b)∧BoxL W w.heap.size [.int .i64 0,.string ByteArray.empty,.int .i64 0,.string ByteArray.empty]∧w.heap.size+1≤W.heap.size∧b<w.heap.size∧B≤b
def As2 (w:World) (b:Nat) (W:World) (g:Nat) (cs:List Value):Prop:=BoxL W g cs∧w.heap.size≤g∧b<w.heap.size
section
variable {w W W':World} {B b kk k2 g:Nat} {xs:List Int} {cs:List Value}
theorem As1.low (h:As1 w B b xs kk W) (hb:Below W.heap.size W W'):As1 w B b xs kk W' :=
 ⟨h.1.kept (grown_none hb) (fun e=>by cases e) (fun g e=>by cases e),grown_below h.2.1 hb,h.2.2.1.kept (grown_none hb) (fun e=>by cases e),Nat.le_trans h.2.2.2.1 hb.size,h.2.2.2.2⟩
theorem As1.read (h:As1 w B b xs kk W) (ht:TapeAt W' B b xs k2) (hg:W.grownBy W' (some b)):As1 w B b xs k2 W' :=
 ⟨ht,grown_trans h.2.1 hg,h.2.2.1.kept hg (fun e=>by have:=Option.some.inj e;have:=h.2.2.2.2.1;omega),Nat.le_trans h.2.2.2.1 hg.size,h.2.2.2.2⟩
theorem As2.low (h:As2 w b W g cs) (hb:Below W.heap.size W W'):As2 w b W' g cs:=⟨h.1.kept (grown_none hb) (fun e=>by cases e),h.2⟩
theorem As2.ne (h:As2 w b W g cs):¬ g=b:=by have:=h.2.1;have:=h.2.2;omega
theorem As2.read (h:As2 w b W g cs) (hg:W.grownBy W' (some b)):As2 w b W' g cs:=⟨h.1.kept hg (fun e=>h.ne (Option.some.inj e)),h.2⟩
theorem As1.box (h:As1 w B b xs kk W) {cs:Array Value} {T:TypeId} (e:W.alloc (.cells cs T)=W'):As1 w B b xs kk W'∧As2 w b W' W.heap.size cs.toList∧Below W.heap.size W W':=by
 have A:Below W.heap.size W W':=by rw [← e];exact (Below.refl _ _).alloc (Nat.le_refl _) _
 exact ⟨h.low A,⟨box_mk e,by have:=h.2.2.2.1;omega,h.2.2.2.2.1⟩,A⟩
theorem As1.rows (h:As1 w B b xs kk W):W.cell? ⟨w.heap.size,0,none⟩=some (.int .i64 0)∧W.cell? ⟨w.heap.size,1,none⟩=some (.string ByteArray.empty)∧W.cell? ⟨w.heap.size,2,none⟩=some (.int .i64 0)∧W.cell? ⟨w.heap.size,3,none⟩=some (.string ByteArray.empty)∧∀ j,W.frozen? ⟨w.heap.size,j,none⟩=false :=
 ⟨h.2.2.1.1 0 _ rfl,h.2.2.1.1 1 _ rfl,h.2.2.1.1 2 _ rfl,h.2.2.1.1 3 _ rfl,h.2.2.1.2.1⟩
theorem As1.fin (h:As1 w B b xs kk W) (v0 v1 v2 v3:Value):TapeAt ((((W.setCell ⟨w.heap.size,0,none⟩ v0).setCell ⟨w.heap.size,1,none⟩ v1).setCell ⟨w.heap.size,2,none⟩ v2).setCell ⟨w.heap.size,3,none⟩ v3) B b xs kk∧w.grownBy ((((W.setCell ⟨w.heap.size,0,none⟩ v0).setCell ⟨w.heap.size,1,none⟩ v1).setCell ⟨w.heap.size,2,none⟩ v2).setCell ⟨w.heap.size,3,none⟩ v3) (some b) :=
 four_tape h.1 h.2.1 (by have:=h.2.2.2.2.1;omega) (by have:=h.2.2.2.2;omega) (Nat.le_refl _) v0 v1 v2 v3
theorem As2.pick2 {x y:Int} {m:Nat} (h:As2 w b W g (#[Value.int .i64 x,Value.int .i64 y].toList)) (hm:(m:Int)<2):∃ op:Int,(op=x∨op=y)∧W.cell? ⟨g,m,none⟩=some (.int .i64 op):=by
 have hm:m=0∨m=1:=by omega
 rcases hm with rfl | rfl
 · exact ⟨x,.inl rfl,h.1.1 0 _ rfl⟩
 exact ⟨y,.inr rfl,h.1.1 1 _ rfl⟩
theorem As2.pick3 {x y z:Int} {m:Nat} (h:As2 w b W g (#[Value.int .i64 x,Value.int .i64 y,Value.int .i64 z].toList)) (hm:(m:Int)<3):∃ op:Int,(op=x∨op=y∨op=z)∧W.cell? ⟨g,m,none⟩=some (.int .i64 op):=by
 have hm:m=0∨m=1∨m=2:=by omega
 rcases hm with rfl | rfl | rfl
 · exact ⟨x,.inl rfl,h.1.1 0 _ rfl⟩
 · exact ⟨y,.inr (.inl rfl),h.1.1 1 _ rfl⟩
 exact ⟨z,.inr (.inr rfl),h.1.1 2 _ rfl⟩
end
theorem One_box (ys:List ByteArray) (xs:List Int) (k B b b2 n:Nat) (w:World) (hn:n=ys.length) (hk:k≤2 ^ 40) (ht:TapeAt w B b xs k) (h0:1<ys.length) (hy:ys.length≤100) (hb:BoxL w b2 (ys.map Value.string)) (hne:¬ b2=b) :
  Calls Tryz.prog 13 #[.pointer (some ⟨b,0,none⟩),.slice (some ⟨b2,0,none⟩) n n] w (OneL xs k B b ys w):=by
 subst hn;refine (One_any xs k B b ys b2 0 ys.length w hk ht h0 hy (Nat.le_refl _) (by unfold maxLen;omega) hne (fun i y hi=>?_)).mono ?_
 · rw [Nat.zero_add];exact hb.1 i _ (by rw [List.getElem?_map,hi];rfl)
 rintro e w' ⟨rfl,A,C⟩;have D:=@foldI_range (tapeI xs k) ys.length (by omega);exact ⟨_,getD_mem (by omega),rfl,A,C⟩
theorem info_term3:(Tryz.prog.info? 35).map (fun i=>(i.zero,i.size))=some (some (.agg #[.int .i64 0,.string ByteArray.empty,.int .i64 0,.string ByteArray.empty]),4):=by kernel_rfl
def AsgPost (xs:List Int) (k B b:Nat) (w:World) (e:Ending) (w':World):Prop:=∃ (t:Term4) (j:Nat),e=.returned (.agg #[.int .i64 t.key,.string t.nm,.int .i64 t.op,.string t.val])∧OkX t∧t.val.size≤100∧j≤4∧TapeAt w' B b xs (k+j)∧w.grownBy w' (some b)
set_option maxRecDepth 100000 in
set_option maxHeartbeats 16000000 in
theorem Assigns_any (xs:List Int) (k B b:Nat) (w:World) (hk:k≤2 ^ 39) (ht:TapeAt w B b xs k):Calls Tryz.prog 56 #[.pointer (some ⟨b,0,none⟩)] w (AsgPost xs k B b w):=by
 have S1:=Lh_ (show b<w.heap.size∧B≤b by obtain ⟨_,_,_,_,_,_,h1,h2⟩:=ht;exact ⟨h2,h1⟩);have G2:=Lh_ ht;have HK:=Lh_ hk;clear ht hk;have L2:=(zero_of_info (P:=Tryz.prog) (t:=35) info_term3).1;go_enter Tryz.func56,Tryz.ntmps56;go_upto_region 1 with fail
 obtain ⟨w1,hw1⟩:∃ z,w.alloc (.cells #[.int .i64 0,.string ByteArray.empty,.int .i64 0,.string ByteArray.empty] 35)=z:=⟨_,rfl⟩;have T1:Below w.heap.size w w1:=by rw [← hw1];exact (Below.refl _ _).alloc (Nat.le_refl _) _
 have C2:=Lh_ (show As1 w B b xs k w1 from ⟨G2.out.kept (grown_none T1) (fun e=>by cases e) (fun g e=>by cases e),grown_any T1,box_mk hw1,by rw [← hw1];simp,S1.out.1,S1.out.2⟩);try simp only [hw1]
 clear hw1 T1 L2 G2 S1;go_wp2_with fail;refine (Next_lit 14 xs (k) B b w1 (by have:=HK.out;omega) C2.out.1 (by decide) (by decide)).mono ?_;rintro e v2 ⟨s,G,D,rfl,C,F⟩;have M2:=Lh_ (show 0≤s∧s<14 from ⟨G,D⟩);clear G D;have D0:=Lh_ (C2.out.read C F);clear C F;by_cases s0:s=0
 ·
  have e0:(s == 0)=true:=by rw [s0];rfl
  clear s0;go_wp2_with fail;refine (One_lit envN xs (k+1) B b #[.string ⟨#[73,68,95,65]⟩,.string ⟨#[73,68,95,66]⟩,.string ⟨#[83,85,66,83,89,83,84,69,77]⟩] 9 v2 3 rfl rfl (by have:=HK.out;omega) D0.out.1 (by decide) (by decide)).mono ?_;rintro e v3 ⟨nm,E,rfl,C,F⟩;have B1:=Lh_ (envN_small nm E);have A1:=Lh_ E;clear E;have V1:=Lh_ (D0.out.read C F);clear C F;go_wp2_with fail;refine (Next_lit 2 xs (k+1+1) B b v3 (by have:=HK.out;omega) V1.out.1 (by decide) (by decide)).mono ?_;rintro e v4 ⟨n2,G,D,rfl,C,F⟩;have E0:=Lh_ (show 0≤n2∧n2<2 from ⟨G,D⟩);clear G D;have W1:=Lh_ (V1.out.read C F);clear C F;go_wp2_with fail;refine (One_lit asV6 xs (k+1+1+1) B b #[.string ⟨#[49]⟩,.string ⟨#[]⟩,.string ⟨#[37,107]⟩,.string ⟨#[117,49]⟩,.string ⟨#[36,101,110,118,123,73,68,95,65,125,120]⟩] 9 v4 5 rfl rfl (by have:=HK.out;omega) W1.out.1 (by decide) (by decide)).mono ?_;rintro e v5 ⟨y,E,rfl,C,F⟩;have R:=Lh_ (asV6_small y E);have R0:=Lh_ E;clear E;have X1:=Lh_ (W1.out.read C F);clear C F;have hn:=E0.out;have Q0:IntKind.i64.wrap (3+n2)=3+n2:=by rw [IntKind.wrap_i64];omega
  have P0:wrap64 (3+n2)=3+n2:=by unfold wrap64;omega
  obtain ⟨Z,A0,B0,C0,T⟩:=X1.out.rows;go_wp2;refine bodyPost_ret (v:=.agg #[.int .i64 (6),.string nm,.int .i64 (3+n2),.string y]) (by simp [results,Tryz.results56,go_sem,Z,A0,B0,C0,T] <;> rfl) rfl ?_;have M:=X1.out.fin (.int .i64 (6)) (.string nm) (.int .i64 (3+n2)) (.string y);exact ⟨⟨6,nm,3+n2,y⟩,4,rfl,mkX (by omega) (by omega) B1.out R.out (fun _=>A1.out) (fun h=>by first | (exact absurd h (by decide)) | (have h2:_=(7:Int):=h;omega)),R.out,by decide,M.1,M.2⟩
 have e0:(s == 0)=false:=by simpa using s0
 by_cases s1:s=1
 ·
  have e1:(s == 1)=true:=by rw [s1];rfl
  clear s1;go_wp2_with fail;refine (One_lit envN xs (k+1) B b #[.string ⟨#[73,68,95,65]⟩,.string ⟨#[73,68,95,66]⟩,.string ⟨#[83,85,66,83,89,83,84,69,77]⟩] 9 v2 3 rfl rfl (by have:=HK.out;omega) D0.out.1 (by decide) (by decide)).mono ?_;rintro e v6 ⟨nm,E,rfl,C,F⟩;have B1:=Lh_ (envN_small nm E);have A1:=Lh_ E;clear E;have Y1:=Lh_ (D0.out.read C F);clear C F;go_wp2_with fail;refine (Next_lit 2 xs (k+1+1) B b v6 (by have:=HK.out;omega) Y1.out.1 (by decide) (by decide)).mono ?_;rintro e v7 ⟨n2,G,D,rfl,C,F⟩;have E0:=Lh_ (show 0≤n2∧n2<2 from ⟨G,D⟩);clear G D;have Z1:=Lh_ (Y1.out.read C F);clear C F;go_wp2_with fail;refine (One_lit asV6 xs (k+1+1+1) B b #[.string ⟨#[49]⟩,.string ⟨#[]⟩,.string ⟨#[37,107]⟩,.string ⟨#[117,49]⟩,.string ⟨#[36,101,110,118,123,73,68,95,65,125,120]⟩] 9 v7 5 rfl rfl (by have:=HK.out;omega) Z1.out.1 (by decide) (by decide)).mono ?_;rintro e v8 ⟨y,E,rfl,C,F⟩;have R:=Lh_ (asV6_small y E);have R0:=Lh_ E;clear E;have A2:=Lh_ (Z1.out.read C F);clear C F;have hn:=E0.out;have Q0:IntKind.i64.wrap (3+n2)=3+n2:=by rw [IntKind.wrap_i64];omega
  have P0:wrap64 (3+n2)=3+n2:=by unfold wrap64;omega
  obtain ⟨Z,A0,B0,C0,T⟩:=A2.out.rows;go_wp2;refine bodyPost_ret (v:=.agg #[.int .i64 (6),.string nm,.int .i64 (3+n2),.string y]) (by simp [results,Tryz.results56,go_sem,Z,A0,B0,C0,T] <;> rfl) rfl ?_;have M:=A2.out.fin (.int .i64 (6)) (.string nm) (.int .i64 (3+n2)) (.string y);exact ⟨⟨6,nm,3+n2,y⟩,4,rfl,mkX (by omega) (by omega) B1.out R.out (fun _=>A1.out) (fun h=>by first | (exact absurd h (by decide)) | (have h2:_=(7:Int):=h;omega)),R.out,by decide,M.1,M.2⟩
 have e1:(s == 1)=false:=by simpa using s1
 by_cases s2:s=2
 ·
  have e2:(s == 2)=true:=by rw [s2];rfl
  clear s2;go_wp2_with fail;refine (Next_lit 3 xs (k+1) B b v2 (by have:=HK.out;omega) D0.out.1 (by decide) (by decide)).mono ?_;rintro e v9 ⟨n2,G,D,rfl,C,F⟩;have E0:=Lh_ (show 0≤n2∧n2<3 from ⟨G,D⟩);clear G D;have B2:=Lh_ (D0.out.read C F);clear C F;go_wp2_with fail;refine (One_lit asV7 xs (k+1+1) B b #[.string ⟨#[115,101,97,116]⟩,.string ⟨#[120,49]⟩,.string ⟨#[97,32,98]⟩,.string ⟨#[37,107]⟩] 9 v9 4 rfl rfl (by have:=HK.out;omega) B2.out.1 (by decide) (by decide)).mono ?_;rintro e v10 ⟨y,E,rfl,C,F⟩;have R:=Lh_ (asV7_small y E);have R0:=Lh_ E;clear E;have D1:=Lh_ (B2.out.read C F);clear C F;have hn:=E0.out;have Q0:IntKind.i64.wrap (3+n2)=3+n2:=by rw [IntKind.wrap_i64];omega
  have P0:wrap64 (3+n2)=3+n2:=by unfold wrap64;omega
  obtain ⟨Z,A0,B0,C0,T⟩:=D1.out.rows;go_wp2;refine bodyPost_ret (v:=.agg #[.int .i64 (7),.string ByteArray.empty,.int .i64 (3+n2),.string y]) (by simp [results,Tryz.results56,go_sem,Z,A0,B0,C0,T] <;> rfl) rfl ?_;have M:=D1.out.fin (.int .i64 (7)) (.string ByteArray.empty) (.int .i64 (3+n2)) (.string y);exact ⟨⟨7,ByteArray.empty,3+n2,y⟩,3,rfl,mkX (by omega) (by omega) (by decide) R.out (fun h=>by first | (exact absurd h (by decide)) | (have h2:_=(6:Int):=h;omega)) (fun _=>by omega),R.out,by decide,M.1,M.2⟩
 have e2:(s == 2)=false:=by simpa using s2
 by_cases s3:s=3
 ·
  have e3:(s == 3)=true:=by rw [s3];rfl
  clear s3;go_wp2_with fail;refine (Next_lit 3 xs (k+1) B b v2 (by have:=HK.out;omega) D0.out.1 (by decide) (by decide)).mono ?_;rintro e v11 ⟨n2,G,D,rfl,C,F⟩;have E0:=Lh_ (show 0≤n2∧n2<3 from ⟨G,D⟩);clear G D;have E1:=Lh_ (D0.out.read C F);clear C F;go_wp2_with fail;refine (One_lit asV7 xs (k+1+1) B b #[.string ⟨#[115,101,97,116]⟩,.string ⟨#[120,49]⟩,.string ⟨#[97,32,98]⟩,.string ⟨#[37,107]⟩] 9 v11 4 rfl rfl (by have:=HK.out;omega) E1.out.1 (by decide) (by decide)).mono ?_;rintro e v12 ⟨y,E,rfl,C,F⟩;have R:=Lh_ (asV7_small y E);have R0:=Lh_ E;clear E;have F1:=Lh_ (E1.out.read C F);clear C F;have hn:=E0.out;have Q0:IntKind.i64.wrap (3+n2)=3+n2:=by rw [IntKind.wrap_i64];omega
  have P0:wrap64 (3+n2)=3+n2:=by unfold wrap64;omega
  obtain ⟨Z,A0,B0,C0,T⟩:=F1.out.rows;go_wp2;refine bodyPost_ret (v:=.agg #[.int .i64 (7),.string ByteArray.empty,.int .i64 (3+n2),.string y]) (by simp [results,Tryz.results56,go_sem,Z,A0,B0,C0,T] <;> rfl) rfl ?_;have M:=F1.out.fin (.int .i64 (7)) (.string ByteArray.empty) (.int .i64 (3+n2)) (.string y);exact ⟨⟨7,ByteArray.empty,3+n2,y⟩,3,rfl,mkX (by omega) (by omega) (by decide) R.out (fun h=>by first | (exact absurd h (by decide)) | (have h2:_=(6:Int):=h;omega)) (fun _=>by omega),R.out,by decide,M.1,M.2⟩
 have e3:(s == 3)=false:=by simpa using s3
 by_cases s4:s=4
 ·
  have e4:(s == 4)=true:=by rw [s4];rfl
  clear s4;go_upto_region 9 with fail
  refine wp_region_held_late (S:=fun w'=>w'=w') (late:=fun i=>decide (9≤i)) (by kernel_rfl) ?_;obtain ⟨wd,hwd⟩:∃ z,World.drew v2=z:=⟨_,rfl⟩;rw [hwd];have Y0:Below v2.heap.size v2 wd:=by rw [← hwd];exact below_drewN_self _ _ 1
  clear hwd;have Z0:=Lh_ (D0.out.low Y0);clear Y0;refine tkL 1 31 (.pointer (some ⟨b,0,none⟩)) rfl (fun w' hS=>by go_simp) (by trivial) ?_;try simp only [zP,zA,zB,zC]
  refine tkL 5 35 (.pointer (some ⟨b,0,none⟩)) rfl (fun w' hS=>by go_simp) (by trivial) ?_;try simp only [zP,zA,zB,zC]
  refine meetHL fun X hi_ ho_ a0 ha0=>?_
  have F0:∀ (W:World) (gi:Nat) (m:Nat) (Q:Int) (gu:Nat) (y:ByteArray),∀ a_,a_=((((((a0.put (some 30) (.slice (some ⟨gi,0,none⟩) 2 2)).put (some 32) (.int .i64 (m:Int))).put (some 33) (.pointer (some ⟨gi,m,none⟩))).put (some 34) (.int .i64 Q)).put (some 36) (.slice (some ⟨gu,0,none⟩) 4 4)).put (some 37) (.string y))→Hid (As1 w B b xs (k+1+1+1) W)→Hid (Q=3∨Q=6)→Hid (y.size≤100)→X 2 #[true,true,true,true,true,true,true,true,false,false] a_ W:=by
   intro W gi m Q gu y a_ ea A O Y;subst ea;refine ho_ _ _ _ _ ?_;rw [ha0];try simp only [zP,zA,zB,zC]
   refine tkL 8 38 (.agg #[.int .i64 15,.string ByteArray.empty,.int .i64 Q,.string y]) rfl (fun w' hS=>by (go_simp;try rfl)) (by trivial) ?_;try simp only [zP,zA,zB,zC]
   refine rdL 9 (o:=⟨none,.store _ _ _,_,_,_,_⟩) rfl (fun K hK=>?_);obtain ⟨Z,A0,B0,C0,T⟩:=A.out.rows;go_simp;refine hK.out _ _ (fun h_=>by cases h_) ?_;clear hK K;try simp only [zP,zA,zB,zC]
   refine wpAnyHL_done (by kernel_rfl) ?_ _;go_wp2;refine bodyPost_ret (v:=.agg #[.int .i64 15,.string ByteArray.empty,.int .i64 Q,.string y]) (by simp [results,Tryz.results56,go_sem,Z,A0,B0,C0,T] <;> rfl) rfl ?_;have M:=A.out.fin (.int .i64 15) (.string ByteArray.empty) (.int .i64 Q) (.string y);exact ⟨⟨15,ByteArray.empty,Q,y⟩,3,rfl,mkX (by omega) (by have:=O.out;omega) (by decide) Y.out (fun h=>absurd h (by decide)) (fun h=>absurd h (by decide)),Y.out,by decide,M.1,M.2⟩
  have J0:∀ (W:World) (gi:Nat) (m:Nat) (Q:Int) (gu:Nat),∀ a_,a_=(((((a0.put (some 30) (.slice (some ⟨gi,0,none⟩) 2 2)).put (some 32) (.int .i64 (m:Int))).put (some 33) (.pointer (some ⟨gi,m,none⟩))).put (some 34) (.int .i64 Q)).put (some 36) (.slice (some ⟨gu,0,none⟩) 4 4))→Hid (As1 w B b xs (k+1+1) W)→Hid (Q=3∨Q=6)→Hid (As2 w b W gu [.string ⟨#[108,97,110,37,110]⟩,.string ⟨#[110,101,116,48]⟩,.string ⟨#[97,47,98]⟩,.string ⟨#[37,99]⟩])→X 3 #[true,true,true,true,true,true,true,false,false,false] a_ W:=by
   intro W gi m Q gu a_ ea A O U;subst ea;refine ho_ _ _ _ _ ?_;rw [ha0];try simp only [zP,zA,zB,zC]
   refine rdL 7 (o:=⟨some 37,.call ⟨_,_,_⟩,_,_,_,_⟩) rfl (fun K hK=>?_);go_simp;go_at_call 13;refine (One_box asV15 xs (k+1+1) B b gu 4 W rfl (by have:=HK.out;omega) A.out.1 (by decide) (by decide) (show BoxL _ _ (asV15.map Value.string) from U.out.1) U.out.ne).mono ?_;rintro e' V ⟨y,E,rfl,L,J⟩;exact hK.out _ _ (fun _=>by trivial) (hi_ _ _ _ _ (F0 V gi m Q gu y _ (by rw [ha0];rfl) (Lh_ (A.out.read L J)) O (Lh_ (asV15_small y E))))
  have L0:∀ (W:World) (gi:Nat) (m:Nat) (gu:Nat) (y:ByteArray),∀ a_,a_=(((((a0.put (some 30) (.slice (some ⟨gi,0,none⟩) 2 2)).put (some 32) (.int .i64 (m:Int))).put (some 33) (.pointer (some ⟨gi,m,none⟩))).put (some 36) (.slice (some ⟨gu,0,none⟩) 4 4)).put (some 37) (.string y))→Hid (As1 w B b xs (k+1+1+1) W)→Hid (As2 w b W gi [.int .i64 3,.int .i64 6])→Hid ((m:Int)<2)→Hid (y.size≤100)→X 3 #[true,true,true,true,false,true,true,true,false,false] a_ W:=by
   intro W gi m gu y a_ ea A I N Y;subst ea;refine ho_ _ _ _ _ ?_;rw [ha0];try simp only [zP,zA,zB,zC]
   refine rdL 4 (o:=⟨some 34,.load _ _,_,_,_,_⟩) rfl (fun K hK=>?_);have M0:=N.out;obtain ⟨Q,N0,ck⟩:=I.out.pick2 N.out;go_simp;exact hK.out _ _ (fun _=>by trivial) (hi_ _ _ _ _ (F0 W gi m Q gu y _ (by rw [ha0];rfl) A (Lh_ N0) Y))
  have U0:∀ (W:World) (gi:Nat) (m:Nat) (Q:Int),∀ a_,a_=((((a0.put (some 30) (.slice (some ⟨gi,0,none⟩) 2 2)).put (some 32) (.int .i64 (m:Int))).put (some 33) (.pointer (some ⟨gi,m,none⟩))).put (some 34) (.int .i64 Q))→Hid (As1 w B b xs (k+1+1) W)→Hid (Q=3∨Q=6)→X 4 #[true,true,true,true,true,true,false,false,false,false] a_ W:=by
   intro W gi m Q a_ ea A O;subst ea;refine ho_ _ _ _ _ ?_;rw [ha0];try simp only [zP,zA,zB,zC]
   refine rdL 6 (o:=⟨some 36,.buildSlice _ _ _,_,_,_,_⟩) rfl (fun K hK=>?_);go_simp;obtain ⟨V,hV⟩:∃ z,W.alloc (.cells #[.string ⟨#[108,97,110,37,110]⟩,.string ⟨#[110,101,116,48]⟩,.string ⟨#[97,47,98]⟩,.string ⟨#[37,99]⟩] 9)=z:=⟨_,rfl⟩;obtain ⟨L,J,x3⟩:=A.out.box hV;try rw [hV]
   exact hK.out _ _ (fun _=>by trivial) (hi_ _ _ _ _ (J0 V gi m Q W.heap.size _ (by rw [ha0];rfl) (Lh_ L) O (Lh_ J)))
  have K0:∀ (W:World) (gi:Nat) (m:Nat) (gu:Nat),∀ a_,a_=((((a0.put (some 30) (.slice (some ⟨gi,0,none⟩) 2 2)).put (some 32) (.int .i64 (m:Int))).put (some 33) (.pointer (some ⟨gi,m,none⟩))).put (some 36) (.slice (some ⟨gu,0,none⟩) 4 4))→Hid (As1 w B b xs (k+1+1) W)→Hid (As2 w b W gi [.int .i64 3,.int .i64 6])→Hid ((m:Int)<2)→Hid (As2 w b W gu [.string ⟨#[108,97,110,37,110]⟩,.string ⟨#[110,101,116,48]⟩,.string ⟨#[97,47,98]⟩,.string ⟨#[37,99]⟩])→X 4 #[true,true,true,true,false,true,true,false,false,false] a_ W:=by
   intro W gi m gu a_ ea A I N U;subst ea;refine ho_ _ _ _ _ ?_;rw [ha0];try simp only [zP,zA,zB,zC]
   refine wpAnyHL_ready (rs:=[4,7]) (by kernel_rfl) (by simp) ?_;refine AllReadyHL.cons (o:=⟨some 34,.load _ _,_,_,_,_⟩) rfl (fun K hK=>?_) (AllReadyHL.cons (o:=⟨some 37,.call ⟨_,_,_⟩,_,_,_,_⟩) rfl (fun K hK=>?_) (AllReadyHL.nil))
   ·
    have M0:=N.out;obtain ⟨Q,N0,ck⟩:=I.out.pick2 N.out;go_simp;exact hK.out _ _ (fun _=>by trivial) (hi_ _ _ _ _ (J0 W gi m Q gu _ (by rw [ha0];rfl) A (Lh_ N0) U))
   go_simp;go_at_call 13;refine (One_box asV15 xs (k+1+1) B b gu 4 W rfl (by have:=HK.out;omega) A.out.1 (by decide) (by decide) (show BoxL _ _ (asV15.map Value.string) from U.out.1) U.out.ne).mono ?_;rintro e' V ⟨y,E,rfl,L,J⟩;exact hK.out _ _ (fun _=>by trivial) (hi_ _ _ _ _ (L0 V gi m gu y _ (by rw [ha0];rfl) (Lh_ (A.out.read L J)) (Lh_ (I.out.read J)) N (Lh_ (asV15_small y E))))
  have X0:∀ (W:World) (m:Nat) (gu:Nat) (y:ByteArray),∀ a_,a_=(((a0.put (some 32) (.int .i64 (m:Int))).put (some 36) (.slice (some ⟨gu,0,none⟩) 4 4)).put (some 37) (.string y))→Hid (As1 w B b xs (k+1+1+1) W)→Hid ((m:Int)<2)→Hid (y.size≤100)→X 5 #[false,true,true,false,false,true,true,true,false,false] a_ W:=by
   intro W m gu y a_ ea A N Y;subst ea;refine ho_ _ _ _ _ ?_;rw [ha0];try simp only [zP,zA,zB,zC]
   refine rdL 0 (o:=⟨some 30,.buildSlice _ _ _,_,_,_,_⟩) rfl (fun K hK=>?_);go_simp;obtain ⟨V,hV⟩:∃ z,W.alloc (.cells #[.int .i64 3,.int .i64 6] 3)=z:=⟨_,rfl⟩;obtain ⟨L,J,x3⟩:=A.out.box hV;try rw [hV]
   refine hK.out _ _ (fun _=>(by trivial)) ?_;clear hK K;try simp only [zP,zA,zB,zC]
   refine tkL 3 33 (.pointer (some ⟨W.heap.size,m,none⟩)) rfl (fun w' hS=>by (have M0:=N.out;go_simp)) (by trivial) ?_;try simp only [zP,zA,zB,zC]
   exact hi_ _ _ _ _ (L0 V W.heap.size m gu y _ (by rw [ha0];rfl) (Lh_ L) (Lh_ J) N Y)
  have T0:∀ (W:World) (gi:Nat) (m:Nat),∀ a_,a_=(((a0.put (some 30) (.slice (some ⟨gi,0,none⟩) 2 2)).put (some 32) (.int .i64 (m:Int))).put (some 33) (.pointer (some ⟨gi,m,none⟩)))→Hid (As1 w B b xs (k+1+1) W)→Hid (As2 w b W gi [.int .i64 3,.int .i64 6])→Hid ((m:Int)<2)→X 5 #[true,true,true,true,false,true,false,false,false,false] a_ W:=by
   intro W gi m a_ ea A I N;subst ea;refine ho_ _ _ _ _ ?_;rw [ha0];try simp only [zP,zA,zB,zC]
   refine wpAnyHL_ready (rs:=[4,6]) (by kernel_rfl) (by simp) ?_;refine AllReadyHL.cons (o:=⟨some 34,.load _ _,_,_,_,_⟩) rfl (fun K hK=>?_) (AllReadyHL.cons (o:=⟨some 36,.buildSlice _ _ _,_,_,_,_⟩) rfl (fun K hK=>?_) (AllReadyHL.nil))
   ·
    have M0:=N.out;obtain ⟨Q,N0,ck⟩:=I.out.pick2 N.out;go_simp;exact hK.out _ _ (fun _=>by trivial) (hi_ _ _ _ _ (U0 W gi m Q _ (by rw [ha0];rfl) A (Lh_ N0)))
   go_simp;obtain ⟨V,hV⟩:∃ z,W.alloc (.cells #[.string ⟨#[108,97,110,37,110]⟩,.string ⟨#[110,101,116,48]⟩,.string ⟨#[97,47,98]⟩,.string ⟨#[37,99]⟩] 9)=z:=⟨_,rfl⟩;obtain ⟨L,J,x3⟩:=A.out.box hV;try rw [hV]
   exact hK.out _ _ (fun _=>by trivial) (hi_ _ _ _ _ (K0 V gi m W.heap.size _ (by rw [ha0];rfl) (Lh_ L) (Lh_ (I.out.low x3)) N (Lh_ J)))
  have V0:∀ (W:World) (gi:Nat) (gu:Nat),∀ a_,a_=((a0.put (some 30) (.slice (some ⟨gi,0,none⟩) 2 2)).put (some 36) (.slice (some ⟨gu,0,none⟩) 4 4))→Hid (As1 w B b xs (k+1) W)→Hid (As2 w b W gi [.int .i64 3,.int .i64 6])→Hid (As2 w b W gu [.string ⟨#[108,97,110,37,110]⟩,.string ⟨#[110,101,116,48]⟩,.string ⟨#[97,47,98]⟩,.string ⟨#[37,99]⟩])→X 6 #[true,true,false,false,false,true,true,false,false,false] a_ W:=by
   intro W gi gu a_ ea A I U;subst ea;refine ho_ _ _ _ _ ?_;rw [ha0];try simp only [zP,zA,zB,zC]
   refine rdL 2 (o:=⟨some 32,.call ⟨_,_,_⟩,_,_,_,_⟩) rfl (fun K hK=>?_);go_simp;go_at_call 12;refine (Next_lit 2 xs (k+1) B b W (by have:=HK.out;omega) A.out.1 (by decide) (by decide)).mono ?_;rintro e' V ⟨nn,G,D,rfl,L,J⟩;obtain ⟨m,rfl⟩:∃ m:Nat,nn=m:=⟨nn.toNat,by omega⟩;refine hK.out _ _ (fun _=>(by trivial)) ?_;clear hK K;try simp only [zP,zA,zB,zC]
   refine tkL 3 33 (.pointer (some ⟨gi,m,none⟩)) rfl (fun w' hS=>by go_simp) (by trivial) ?_;try simp only [zP,zA,zB,zC]
   exact hi_ _ _ _ _ (K0 V gi m gu _ (by rw [ha0];rfl) (Lh_ (A.out.read L J)) (Lh_ (I.out.read J)) (Lh_ D) (Lh_ (U.out.read J)))
  have W0:∀ (W:World) (m:Nat) (gu:Nat),∀ a_,a_=((a0.put (some 32) (.int .i64 (m:Int))).put (some 36) (.slice (some ⟨gu,0,none⟩) 4 4))→Hid (As1 w B b xs (k+1+1) W)→Hid ((m:Int)<2)→Hid (As2 w b W gu [.string ⟨#[108,97,110,37,110]⟩,.string ⟨#[110,101,116,48]⟩,.string ⟨#[97,47,98]⟩,.string ⟨#[37,99]⟩])→X 6 #[false,true,true,false,false,true,true,false,false,false] a_ W:=by
   intro W m gu a_ ea A N U;subst ea;refine ho_ _ _ _ _ ?_;rw [ha0];try simp only [zP,zA,zB,zC]
   refine wpAnyHL_ready (rs:=[0,7]) (by kernel_rfl) (by simp) ?_;refine AllReadyHL.cons (o:=⟨some 30,.buildSlice _ _ _,_,_,_,_⟩) rfl (fun K hK=>?_) (AllReadyHL.cons (o:=⟨some 37,.call ⟨_,_,_⟩,_,_,_,_⟩) rfl (fun K hK=>?_) (AllReadyHL.nil))
   ·
    go_simp;obtain ⟨V,hV⟩:∃ z,W.alloc (.cells #[.int .i64 3,.int .i64 6] 3)=z:=⟨_,rfl⟩;obtain ⟨L,J,x3⟩:=A.out.box hV;try rw [hV]
    refine hK.out _ _ (fun _=>(by trivial)) ?_;clear hK K;try simp only [zP,zA,zB,zC]
    refine tkL 3 33 (.pointer (some ⟨W.heap.size,m,none⟩)) rfl (fun w' hS=>by (have M0:=N.out;go_simp)) (by trivial) ?_;try simp only [zP,zA,zB,zC]
    exact hi_ _ _ _ _ (K0 V W.heap.size m gu _ (by rw [ha0];rfl) (Lh_ L) (Lh_ J) N (Lh_ (U.out.low x3)))
   go_simp;go_at_call 13;refine (One_box asV15 xs (k+1+1) B b gu 4 W rfl (by have:=HK.out;omega) A.out.1 (by decide) (by decide) (show BoxL _ _ (asV15.map Value.string) from U.out.1) U.out.ne).mono ?_;rintro e' V ⟨y,E,rfl,L,J⟩;exact hK.out _ _ (fun _=>by trivial) (hi_ _ _ _ _ (X0 V m gu y _ (by rw [ha0];rfl) (Lh_ (A.out.read L J)) N (Lh_ (asV15_small y E))))
  have H0:∀ (W:World) (gi:Nat),∀ a_,a_=(a0.put (some 30) (.slice (some ⟨gi,0,none⟩) 2 2))→Hid (As1 w B b xs (k+1) W)→Hid (As2 w b W gi [.int .i64 3,.int .i64 6])→X 7 #[true,true,false,false,false,true,false,false,false,false] a_ W:=by
   intro W gi a_ ea A I;subst ea;refine ho_ _ _ _ _ ?_;rw [ha0];try simp only [zP,zA,zB,zC]
   refine wpAnyHL_ready (rs:=[2,6]) (by kernel_rfl) (by simp) ?_;refine AllReadyHL.cons (o:=⟨some 32,.call ⟨_,_,_⟩,_,_,_,_⟩) rfl (fun K hK=>?_) (AllReadyHL.cons (o:=⟨some 36,.buildSlice _ _ _,_,_,_,_⟩) rfl (fun K hK=>?_) (AllReadyHL.nil))
   ·
    go_simp;go_at_call 12;refine (Next_lit 2 xs (k+1) B b W (by have:=HK.out;omega) A.out.1 (by decide) (by decide)).mono ?_;rintro e' V ⟨nn,G,D,rfl,L,J⟩;obtain ⟨m,rfl⟩:∃ m:Nat,nn=m:=⟨nn.toNat,by omega⟩;refine hK.out _ _ (fun _=>(by trivial)) ?_;clear hK K;try simp only [zP,zA,zB,zC]
    refine tkL 3 33 (.pointer (some ⟨gi,m,none⟩)) rfl (fun w' hS=>by go_simp) (by trivial) ?_;try simp only [zP,zA,zB,zC]
    exact hi_ _ _ _ _ (T0 V gi m _ (by rw [ha0];rfl) (Lh_ (A.out.read L J)) (Lh_ (I.out.read J)) (Lh_ D))
   go_simp;obtain ⟨V,hV⟩:∃ z,W.alloc (.cells #[.string ⟨#[108,97,110,37,110]⟩,.string ⟨#[110,101,116,48]⟩,.string ⟨#[97,47,98]⟩,.string ⟨#[37,99]⟩] 9)=z:=⟨_,rfl⟩;obtain ⟨L,J,x3⟩:=A.out.box hV;try rw [hV]
   exact hK.out _ _ (fun _=>by trivial) (hi_ _ _ _ _ (V0 V gi W.heap.size _ (by rw [ha0];rfl) (Lh_ L) (Lh_ (I.out.low x3)) (Lh_ J)))
  have H2:∀ (W:World) (m:Nat),∀ a_,a_=(a0.put (some 32) (.int .i64 (m:Int)))→Hid (As1 w B b xs (k+1+1) W)→Hid ((m:Int)<2)→X 7 #[false,true,true,false,false,true,false,false,false,false] a_ W:=by
   intro W m a_ ea A N;subst ea;refine ho_ _ _ _ _ ?_;rw [ha0];try simp only [zP,zA,zB,zC]
   refine wpAnyHL_ready (rs:=[0,6]) (by kernel_rfl) (by simp) ?_;refine AllReadyHL.cons (o:=⟨some 30,.buildSlice _ _ _,_,_,_,_⟩) rfl (fun K hK=>?_) (AllReadyHL.cons (o:=⟨some 36,.buildSlice _ _ _,_,_,_,_⟩) rfl (fun K hK=>?_) (AllReadyHL.nil))
   ·
    go_simp;obtain ⟨V,hV⟩:∃ z,W.alloc (.cells #[.int .i64 3,.int .i64 6] 3)=z:=⟨_,rfl⟩;obtain ⟨L,J,x3⟩:=A.out.box hV;try rw [hV]
    refine hK.out _ _ (fun _=>(by trivial)) ?_;clear hK K;try simp only [zP,zA,zB,zC]
    refine tkL 3 33 (.pointer (some ⟨W.heap.size,m,none⟩)) rfl (fun w' hS=>by (have M0:=N.out;go_simp)) (by trivial) ?_;try simp only [zP,zA,zB,zC]
    exact hi_ _ _ _ _ (T0 V W.heap.size m _ (by rw [ha0];rfl) (Lh_ L) (Lh_ J) N)
   go_simp;obtain ⟨V,hV⟩:∃ z,W.alloc (.cells #[.string ⟨#[108,97,110,37,110]⟩,.string ⟨#[110,101,116,48]⟩,.string ⟨#[97,47,98]⟩,.string ⟨#[37,99]⟩] 9)=z:=⟨_,rfl⟩;obtain ⟨L,J,x3⟩:=A.out.box hV;try rw [hV]
   exact hK.out _ _ (fun _=>by trivial) (hi_ _ _ _ _ (W0 V m W.heap.size _ (by rw [ha0];rfl) (Lh_ L) N (Lh_ J)))
  have H6:∀ (W:World) (gu:Nat),∀ a_,a_=(a0.put (some 36) (.slice (some ⟨gu,0,none⟩) 4 4))→Hid (As1 w B b xs (k+1) W)→Hid (As2 w b W gu [.string ⟨#[108,97,110,37,110]⟩,.string ⟨#[110,101,116,48]⟩,.string ⟨#[97,47,98]⟩,.string ⟨#[37,99]⟩])→X 7 #[false,true,false,false,false,true,true,false,false,false] a_ W:=by
   intro W gu a_ ea A U;subst ea;refine ho_ _ _ _ _ ?_;rw [ha0];try simp only [zP,zA,zB,zC]
   refine wpAnyHL_ready (rs:=[0,2]) (by kernel_rfl) (by simp) ?_;refine AllReadyHL.cons (o:=⟨some 30,.buildSlice _ _ _,_,_,_,_⟩) rfl (fun K hK=>?_) (AllReadyHL.cons (o:=⟨some 32,.call ⟨_,_,_⟩,_,_,_,_⟩) rfl (fun K hK=>?_) (AllReadyHL.nil))
   ·
    go_simp;obtain ⟨V,hV⟩:∃ z,W.alloc (.cells #[.int .i64 3,.int .i64 6] 3)=z:=⟨_,rfl⟩;obtain ⟨L,J,x3⟩:=A.out.box hV;try rw [hV]
    exact hK.out _ _ (fun _=>by trivial) (hi_ _ _ _ _ (V0 V W.heap.size gu _ (by rw [ha0];rfl) (Lh_ L) (Lh_ J) (Lh_ (U.out.low x3))))
   go_simp;go_at_call 12;refine (Next_lit 2 xs (k+1) B b W (by have:=HK.out;omega) A.out.1 (by decide) (by decide)).mono ?_;rintro e' V ⟨nn,G,D,rfl,L,J⟩;obtain ⟨m,rfl⟩:∃ m:Nat,nn=m:=⟨nn.toNat,by omega⟩;exact hK.out _ _ (fun _=>by trivial) (hi_ _ _ _ _ (W0 V m gu _ (by rw [ha0];rfl) (Lh_ (A.out.read L J)) (Lh_ D) (Lh_ (U.out.read J))))
  have H:∀ (W:World),∀ a_,a_=a0→Hid (As1 w B b xs (k+1) W)→X 8 #[false,true,false,false,false,true,false,false,false,false] a_ W:=by
   intro W a_ ea A;subst ea;refine ho_ _ _ _ _ ?_;rw [ha0];try simp only [zP,zA,zB,zC]
   refine wpAnyHL_ready (rs:=[0,2,6]) (by kernel_rfl) (by simp) ?_;refine AllReadyHL.cons (o:=⟨some 30,.buildSlice _ _ _,_,_,_,_⟩) rfl (fun K hK=>?_) (AllReadyHL.cons (o:=⟨some 32,.call ⟨_,_,_⟩,_,_,_,_⟩) rfl (fun K hK=>?_) (AllReadyHL.cons (o:=⟨some 36,.buildSlice _ _ _,_,_,_,_⟩) rfl (fun K hK=>?_) (AllReadyHL.nil)))
   ·
    go_simp;obtain ⟨V,hV⟩:∃ z,W.alloc (.cells #[.int .i64 3,.int .i64 6] 3)=z:=⟨_,rfl⟩;obtain ⟨L,J,x3⟩:=A.out.box hV;try rw [hV]
    exact hK.out _ _ (fun _=>by trivial) (hi_ _ _ _ _ (H0 V W.heap.size _ (by rw [ha0];rfl) (Lh_ L) (Lh_ J)))
   ·
    go_simp;go_at_call 12;refine (Next_lit 2 xs (k+1) B b W (by have:=HK.out;omega) A.out.1 (by decide) (by decide)).mono ?_;rintro e' V ⟨nn,G,D,rfl,L,J⟩;obtain ⟨m,rfl⟩:∃ m:Nat,nn=m:=⟨nn.toNat,by omega⟩;exact hK.out _ _ (fun _=>by trivial) (hi_ _ _ _ _ (H2 V m _ (by rw [ha0];rfl) (Lh_ (A.out.read L J)) (Lh_ D)))
   go_simp;obtain ⟨V,hV⟩:∃ z,W.alloc (.cells #[.string ⟨#[108,97,110,37,110]⟩,.string ⟨#[110,101,116,48]⟩,.string ⟨#[97,47,98]⟩,.string ⟨#[37,99]⟩] 9)=z:=⟨_,rfl⟩;obtain ⟨L,J,x3⟩:=A.out.box hV;try rw [hV]
   exact hK.out _ _ (fun _=>by trivial) (hi_ _ _ _ _ (H6 V W.heap.size _ (by rw [ha0];rfl) (Lh_ L) (Lh_ J)))
  exact H wd a0 rfl Z0
 have e4:(s == 4)=false:=by simpa using s4
 by_cases s5:s=5
 ·
  have e5:(s == 5)=true:=by rw [s5];rfl
  clear s5;go_wp2_with fail;refine (Next_lit 4 xs (k+1) B b v2 (by have:=HK.out;omega) D0.out.1 (by decide) (by decide)).mono ?_;rintro e v13 ⟨n2,G,D,rfl,C,F⟩;have E0:=Lh_ (show 0≤n2∧n2<4 from ⟨G,D⟩);clear G D;have G1:=Lh_ (D0.out.read C F);clear C F;go_wp2_with fail;refine (One_lit asV16 xs (k+1+1) B b #[.string ⟨#[100,105,115,107,47,37,107]⟩,.string ⟨#[100,105,115,107,47,97,32,100,105,115,107,47,98]⟩,.string ⟨#[98,121,47,36,101,110,118,123,73,68,95,70,83,95,85,85,73,68,125]⟩,.string ⟨#[99,100]⟩,.string ⟨#[46,46,47,120]⟩,.string ⟨#[100,105,115,107]⟩] 9 v13 6 rfl rfl (by have:=HK.out;omega) G1.out.1 (by decide) (by decide)).mono ?_;rintro e v14 ⟨y,E,rfl,C,F⟩;have R:=Lh_ (asV16_small y E);have R0:=Lh_ E;clear E;have H1:=Lh_ (G1.out.read C F);clear C F;have hn:=E0.out;have Q0:IntKind.i64.wrap (3+n2)=3+n2:=by rw [IntKind.wrap_i64];omega
  have P0:wrap64 (3+n2)=3+n2:=by unfold wrap64;omega
  obtain ⟨Z,A0,B0,C0,T⟩:=H1.out.rows;go_wp2;refine bodyPost_ret (v:=.agg #[.int .i64 (16),.string ByteArray.empty,.int .i64 (3+n2),.string y]) (by simp [results,Tryz.results56,go_sem,Z,A0,B0,C0,T] <;> rfl) rfl ?_;have M:=H1.out.fin (.int .i64 (16)) (.string ByteArray.empty) (.int .i64 (3+n2)) (.string y);exact ⟨⟨16,ByteArray.empty,3+n2,y⟩,3,rfl,mkX (by omega) (by omega) (by decide) R.out (fun h=>by first | (exact absurd h (by decide)) | (have h2:_=(6:Int):=h;omega)) (fun h=>by first | (exact absurd h (by decide)) | (have h2:_=(7:Int):=h;omega)),R.out,by decide,M.1,M.2⟩
 have e5:(s == 5)=false:=by simpa using s5
 by_cases s6:s=6
 ·
  have e6:(s == 6)=true:=by rw [s6];rfl
  clear s6;go_wp2_with fail;refine (Next_lit 4 xs (k+1) B b v2 (by have:=HK.out;omega) D0.out.1 (by decide) (by decide)).mono ?_;rintro e v15 ⟨n2,G,D,rfl,C,F⟩;have E0:=Lh_ (show 0≤n2∧n2<4 from ⟨G,D⟩);clear G D;have I1:=Lh_ (D0.out.read C F);clear C F;go_wp2_with fail;refine (One_lit asV16 xs (k+1+1) B b #[.string ⟨#[100,105,115,107,47,37,107]⟩,.string ⟨#[100,105,115,107,47,97,32,100,105,115,107,47,98]⟩,.string ⟨#[98,121,47,36,101,110,118,123,73,68,95,70,83,95,85,85,73,68,125]⟩,.string ⟨#[99,100]⟩,.string ⟨#[46,46,47,120]⟩,.string ⟨#[100,105,115,107]⟩] 9 v15 6 rfl rfl (by have:=HK.out;omega) I1.out.1 (by decide) (by decide)).mono ?_;rintro e v16 ⟨y,E,rfl,C,F⟩;have R:=Lh_ (asV16_small y E);have R0:=Lh_ E;clear E;have J1:=Lh_ (I1.out.read C F);clear C F;have hn:=E0.out;have Q0:IntKind.i64.wrap (3+n2)=3+n2:=by rw [IntKind.wrap_i64];omega
  have P0:wrap64 (3+n2)=3+n2:=by unfold wrap64;omega
  obtain ⟨Z,A0,B0,C0,T⟩:=J1.out.rows;go_wp2;refine bodyPost_ret (v:=.agg #[.int .i64 (16),.string ByteArray.empty,.int .i64 (3+n2),.string y]) (by simp [results,Tryz.results56,go_sem,Z,A0,B0,C0,T] <;> rfl) rfl ?_;have M:=J1.out.fin (.int .i64 (16)) (.string ByteArray.empty) (.int .i64 (3+n2)) (.string y);exact ⟨⟨16,ByteArray.empty,3+n2,y⟩,3,rfl,mkX (by omega) (by omega) (by decide) R.out (fun h=>by first | (exact absurd h (by decide)) | (have h2:_=(6:Int):=h;omega)) (fun h=>by first | (exact absurd h (by decide)) | (have h2:_=(7:Int):=h;omega)),R.out,by decide,M.1,M.2⟩
 have e6:(s == 6)=false:=by simpa using s6
 by_cases s7:s=7
 ·
  have e7:(s == 7)=true:=by rw [s7];rfl
  clear s7;go_wp2_with fail;refine (Next_lit 4 xs (k+1) B b v2 (by have:=HK.out;omega) D0.out.1 (by decide) (by decide)).mono ?_;rintro e v17 ⟨n2,G,D,rfl,C,F⟩;have E0:=Lh_ (show 0≤n2∧n2<4 from ⟨G,D⟩);clear G D;have K1:=Lh_ (D0.out.read C F);clear C F;go_wp2_with fail;refine (One_lit asV16 xs (k+1+1) B b #[.string ⟨#[100,105,115,107,47,37,107]⟩,.string ⟨#[100,105,115,107,47,97,32,100,105,115,107,47,98]⟩,.string ⟨#[98,121,47,36,101,110,118,123,73,68,95,70,83,95,85,85,73,68,125]⟩,.string ⟨#[99,100]⟩,.string ⟨#[46,46,47,120]⟩,.string ⟨#[100,105,115,107]⟩] 9 v17 6 rfl rfl (by have:=HK.out;omega) K1.out.1 (by decide) (by decide)).mono ?_;rintro e v18 ⟨y,E,rfl,C,F⟩;have R:=Lh_ (asV16_small y E);have R0:=Lh_ E;clear E;have L1:=Lh_ (K1.out.read C F);clear C F;have hn:=E0.out;have Q0:IntKind.i64.wrap (3+n2)=3+n2:=by rw [IntKind.wrap_i64];omega
  have P0:wrap64 (3+n2)=3+n2:=by unfold wrap64;omega
  obtain ⟨Z,A0,B0,C0,T⟩:=L1.out.rows;go_wp2;refine bodyPost_ret (v:=.agg #[.int .i64 (16),.string ByteArray.empty,.int .i64 (3+n2),.string y]) (by simp [results,Tryz.results56,go_sem,Z,A0,B0,C0,T] <;> rfl) rfl ?_;have M:=L1.out.fin (.int .i64 (16)) (.string ByteArray.empty) (.int .i64 (3+n2)) (.string y);exact ⟨⟨16,ByteArray.empty,3+n2,y⟩,3,rfl,mkX (by omega) (by omega) (by decide) R.out (fun h=>by first | (exact absurd h (by decide)) | (have h2:_=(6:Int):=h;omega)) (fun h=>by first | (exact absurd h (by decide)) | (have h2:_=(7:Int):=h;omega)),R.out,by decide,M.1,M.2⟩
 have e7:(s == 7)=false:=by simpa using s7
 by_cases s8:s=8
 ·
  have e8:(s == 8)=true:=by rw [s8];rfl
  clear s8;go_wp2_with fail;refine (Next_lit 2 xs (k+1) B b v2 (by have:=HK.out;omega) D0.out.1 (by decide) (by decide)).mono ?_;rintro e v19 ⟨n2,G,D,rfl,C,F⟩;have E0:=Lh_ (show 0≤n2∧n2<2 from ⟨G,D⟩);clear G D;have M1:=Lh_ (D0.out.read C F);clear C F;go_wp2_with fail;refine (One_lit asV17 xs (k+1+1) B b #[.string ⟨#[114,111,111,116]⟩,.string ⟨#[100,105,115,107]⟩,.string ⟨#[97,32,98]⟩,.string ⟨#[37,107]⟩] 9 v19 4 rfl rfl (by have:=HK.out;omega) M1.out.1 (by decide) (by decide)).mono ?_;rintro e v20 ⟨y,E,rfl,C,F⟩;have R:=Lh_ (asV17_small y E);have R0:=Lh_ E;clear E;have N1:=Lh_ (M1.out.read C F);clear C F;have hn:=E0.out;have Q0:IntKind.i64.wrap (17+n2)=17+n2:=by rw [IntKind.wrap_i64];omega
  have P0:wrap64 (17+n2)=17+n2:=by unfold wrap64;omega
  obtain ⟨Z,A0,B0,C0,T⟩:=N1.out.rows;go_wp2;refine bodyPost_ret (v:=.agg #[.int .i64 (17+n2),.string ByteArray.empty,.int .i64 (3),.string y]) (by simp [results,Tryz.results56,go_sem,Z,A0,B0,C0,T] <;> rfl) rfl ?_;have M:=N1.out.fin (.int .i64 (17+n2)) (.string ByteArray.empty) (.int .i64 (3)) (.string y);exact ⟨⟨17+n2,ByteArray.empty,3,y⟩,3,rfl,mkX (by omega) (by omega) (by decide) R.out (fun h=>by first | (exact absurd h (by decide)) | (have h2:_=(6:Int):=h;omega)) (fun h=>by first | (exact absurd h (by decide)) | (have h2:_=(7:Int):=h;omega)),R.out,by decide,M.1,M.2⟩
 have e8:(s == 8)=false:=by simpa using s8
 by_cases s9:s=9
 ·
  have e9:(s == 9)=true:=by rw [s9];rfl
  clear s9;go_upto_region 17 with fail
  refine wp_region_held_late (S:=fun w'=>w'=w') (late:=fun i=>decide (9≤i)) (by kernel_rfl) ?_;obtain ⟨wd,hwd⟩:∃ z,World.drew v2=z:=⟨_,rfl⟩;rw [hwd];have Y0:Below v2.heap.size v2 wd:=by rw [← hwd];exact below_drewN_self _ _ 1
  clear hwd;have Z0:=Lh_ (D0.out.low Y0);clear Y0;refine tkL 1 62 (.pointer (some ⟨b,0,none⟩)) rfl (fun w' hS=>by go_simp) (by trivial) ?_;try simp only [zP,zA,zB,zC]
  refine tkL 5 66 (.pointer (some ⟨b,0,none⟩)) rfl (fun w' hS=>by go_simp) (by trivial) ?_;try simp only [zP,zA,zB,zC]
  refine meetHL fun X hi_ ho_ a0 ha0=>?_
  have F0:∀ (W:World) (gi:Nat) (m:Nat) (Q:Int) (gu:Nat) (y:ByteArray),∀ a_,a_=((((((a0.put (some 61) (.slice (some ⟨gi,0,none⟩) 2 2)).put (some 63) (.int .i64 (m:Int))).put (some 64) (.pointer (some ⟨gi,m,none⟩))).put (some 65) (.int .i64 Q)).put (some 67) (.slice (some ⟨gu,0,none⟩) 4 4)).put (some 68) (.string y))→Hid (As1 w B b xs (k+1+1+1) W)→Hid (Q=3∨Q=6)→Hid (y.size≤100)→X 2 #[true,true,true,true,true,true,true,true,false,false] a_ W:=by
   intro W gi m Q gu y a_ ea A O Y;subst ea;refine ho_ _ _ _ _ ?_;rw [ha0];try simp only [zP,zA,zB,zC]
   refine tkL 8 69 (.agg #[.int .i64 19,.string ByteArray.empty,.int .i64 Q,.string y]) rfl (fun w' hS=>by (go_simp;try rfl)) (by trivial) ?_;try simp only [zP,zA,zB,zC]
   refine rdL 9 (o:=⟨none,.store _ _ _,_,_,_,_⟩) rfl (fun K hK=>?_);obtain ⟨Z,A0,B0,C0,T⟩:=A.out.rows;go_simp;refine hK.out _ _ (fun h_=>by cases h_) ?_;clear hK K;try simp only [zP,zA,zB,zC]
   refine wpAnyHL_done (by kernel_rfl) ?_ _;go_wp2;refine bodyPost_ret (v:=.agg #[.int .i64 19,.string ByteArray.empty,.int .i64 Q,.string y]) (by simp [results,Tryz.results56,go_sem,Z,A0,B0,C0,T] <;> rfl) rfl ?_;have M:=A.out.fin (.int .i64 19) (.string ByteArray.empty) (.int .i64 Q) (.string y);exact ⟨⟨19,ByteArray.empty,Q,y⟩,3,rfl,mkX (by omega) (by have:=O.out;omega) (by decide) Y.out (fun h=>absurd h (by decide)) (fun h=>absurd h (by decide)),Y.out,by decide,M.1,M.2⟩
  have J0:∀ (W:World) (gi:Nat) (m:Nat) (Q:Int) (gu:Nat),∀ a_,a_=(((((a0.put (some 61) (.slice (some ⟨gi,0,none⟩) 2 2)).put (some 63) (.int .i64 (m:Int))).put (some 64) (.pointer (some ⟨gi,m,none⟩))).put (some 65) (.int .i64 Q)).put (some 67) (.slice (some ⟨gu,0,none⟩) 4 4))→Hid (As1 w B b xs (k+1+1) W)→Hid (Q=3∨Q=6)→Hid (As2 w b W gu [.string ⟨#[48,54,54,48]⟩,.string ⟨#[54,54,54]⟩,.string ⟨#[57]⟩,.string ⟨#[36,114,101,115,117,108,116]⟩])→X 3 #[true,true,true,true,true,true,true,false,false,false] a_ W:=by
   intro W gi m Q gu a_ ea A O U;subst ea;refine ho_ _ _ _ _ ?_;rw [ha0];try simp only [zP,zA,zB,zC]
   refine rdL 7 (o:=⟨some 68,.call ⟨_,_,_⟩,_,_,_,_⟩) rfl (fun K hK=>?_);go_simp;go_at_call 13;refine (One_box asV19 xs (k+1+1) B b gu 4 W rfl (by have:=HK.out;omega) A.out.1 (by decide) (by decide) (show BoxL _ _ (asV19.map Value.string) from U.out.1) U.out.ne).mono ?_;rintro e' V ⟨y,E,rfl,L,J⟩;exact hK.out _ _ (fun _=>by trivial) (hi_ _ _ _ _ (F0 V gi m Q gu y _ (by rw [ha0];rfl) (Lh_ (A.out.read L J)) O (Lh_ (asV19_small y E))))
  have L0:∀ (W:World) (gi:Nat) (m:Nat) (gu:Nat) (y:ByteArray),∀ a_,a_=(((((a0.put (some 61) (.slice (some ⟨gi,0,none⟩) 2 2)).put (some 63) (.int .i64 (m:Int))).put (some 64) (.pointer (some ⟨gi,m,none⟩))).put (some 67) (.slice (some ⟨gu,0,none⟩) 4 4)).put (some 68) (.string y))→Hid (As1 w B b xs (k+1+1+1) W)→Hid (As2 w b W gi [.int .i64 3,.int .i64 6])→Hid ((m:Int)<2)→Hid (y.size≤100)→X 3 #[true,true,true,true,false,true,true,true,false,false] a_ W:=by
   intro W gi m gu y a_ ea A I N Y;subst ea;refine ho_ _ _ _ _ ?_;rw [ha0];try simp only [zP,zA,zB,zC]
   refine rdL 4 (o:=⟨some 65,.load _ _,_,_,_,_⟩) rfl (fun K hK=>?_);have M0:=N.out;obtain ⟨Q,N0,ck⟩:=I.out.pick2 N.out;go_simp;exact hK.out _ _ (fun _=>by trivial) (hi_ _ _ _ _ (F0 W gi m Q gu y _ (by rw [ha0];rfl) A (Lh_ N0) Y))
  have U0:∀ (W:World) (gi:Nat) (m:Nat) (Q:Int),∀ a_,a_=((((a0.put (some 61) (.slice (some ⟨gi,0,none⟩) 2 2)).put (some 63) (.int .i64 (m:Int))).put (some 64) (.pointer (some ⟨gi,m,none⟩))).put (some 65) (.int .i64 Q))→Hid (As1 w B b xs (k+1+1) W)→Hid (Q=3∨Q=6)→X 4 #[true,true,true,true,true,true,false,false,false,false] a_ W:=by
   intro W gi m Q a_ ea A O;subst ea;refine ho_ _ _ _ _ ?_;rw [ha0];try simp only [zP,zA,zB,zC]
   refine rdL 6 (o:=⟨some 67,.buildSlice _ _ _,_,_,_,_⟩) rfl (fun K hK=>?_);go_simp;obtain ⟨V,hV⟩:∃ z,W.alloc (.cells #[.string ⟨#[48,54,54,48]⟩,.string ⟨#[54,54,54]⟩,.string ⟨#[57]⟩,.string ⟨#[36,114,101,115,117,108,116]⟩] 9)=z:=⟨_,rfl⟩;obtain ⟨L,J,x3⟩:=A.out.box hV;try rw [hV]
   exact hK.out _ _ (fun _=>by trivial) (hi_ _ _ _ _ (J0 V gi m Q W.heap.size _ (by rw [ha0];rfl) (Lh_ L) O (Lh_ J)))
  have K0:∀ (W:World) (gi:Nat) (m:Nat) (gu:Nat),∀ a_,a_=((((a0.put (some 61) (.slice (some ⟨gi,0,none⟩) 2 2)).put (some 63) (.int .i64 (m:Int))).put (some 64) (.pointer (some ⟨gi,m,none⟩))).put (some 67) (.slice (some ⟨gu,0,none⟩) 4 4))→Hid (As1 w B b xs (k+1+1) W)→Hid (As2 w b W gi [.int .i64 3,.int .i64 6])→Hid ((m:Int)<2)→Hid (As2 w b W gu [.string ⟨#[48,54,54,48]⟩,.string ⟨#[54,54,54]⟩,.string ⟨#[57]⟩,.string ⟨#[36,114,101,115,117,108,116]⟩])→X 4 #[true,true,true,true,false,true,true,false,false,false] a_ W:=by
   intro W gi m gu a_ ea A I N U;subst ea;refine ho_ _ _ _ _ ?_;rw [ha0];try simp only [zP,zA,zB,zC]
   refine wpAnyHL_ready (rs:=[4,7]) (by kernel_rfl) (by simp) ?_;refine AllReadyHL.cons (o:=⟨some 65,.load _ _,_,_,_,_⟩) rfl (fun K hK=>?_) (AllReadyHL.cons (o:=⟨some 68,.call ⟨_,_,_⟩,_,_,_,_⟩) rfl (fun K hK=>?_) (AllReadyHL.nil))
   ·
    have M0:=N.out;obtain ⟨Q,N0,ck⟩:=I.out.pick2 N.out;go_simp;exact hK.out _ _ (fun _=>by trivial) (hi_ _ _ _ _ (J0 W gi m Q gu _ (by rw [ha0];rfl) A (Lh_ N0) U))
   go_simp;go_at_call 13;refine (One_box asV19 xs (k+1+1) B b gu 4 W rfl (by have:=HK.out;omega) A.out.1 (by decide) (by decide) (show BoxL _ _ (asV19.map Value.string) from U.out.1) U.out.ne).mono ?_;rintro e' V ⟨y,E,rfl,L,J⟩;exact hK.out _ _ (fun _=>by trivial) (hi_ _ _ _ _ (L0 V gi m gu y _ (by rw [ha0];rfl) (Lh_ (A.out.read L J)) (Lh_ (I.out.read J)) N (Lh_ (asV19_small y E))))
  have X0:∀ (W:World) (m:Nat) (gu:Nat) (y:ByteArray),∀ a_,a_=(((a0.put (some 63) (.int .i64 (m:Int))).put (some 67) (.slice (some ⟨gu,0,none⟩) 4 4)).put (some 68) (.string y))→Hid (As1 w B b xs (k+1+1+1) W)→Hid ((m:Int)<2)→Hid (y.size≤100)→X 5 #[false,true,true,false,false,true,true,true,false,false] a_ W:=by
   intro W m gu y a_ ea A N Y;subst ea;refine ho_ _ _ _ _ ?_;rw [ha0];try simp only [zP,zA,zB,zC]
   refine rdL 0 (o:=⟨some 61,.buildSlice _ _ _,_,_,_,_⟩) rfl (fun K hK=>?_);go_simp;obtain ⟨V,hV⟩:∃ z,W.alloc (.cells #[.int .i64 3,.int .i64 6] 3)=z:=⟨_,rfl⟩;obtain ⟨L,J,x3⟩:=A.out.box hV;try rw [hV]
   refine hK.out _ _ (fun _=>(by trivial)) ?_;clear hK K;try simp only [zP,zA,zB,zC]
   refine tkL 3 64 (.pointer (some ⟨W.heap.size,m,none⟩)) rfl (fun w' hS=>by (have M0:=N.out;go_simp)) (by trivial) ?_;try simp only [zP,zA,zB,zC]
   exact hi_ _ _ _ _ (L0 V W.heap.size m gu y _ (by rw [ha0];rfl) (Lh_ L) (Lh_ J) N Y)
  have T0:∀ (W:World) (gi:Nat) (m:Nat),∀ a_,a_=(((a0.put (some 61) (.slice (some ⟨gi,0,none⟩) 2 2)).put (some 63) (.int .i64 (m:Int))).put (some 64) (.pointer (some ⟨gi,m,none⟩)))→Hid (As1 w B b xs (k+1+1) W)→Hid (As2 w b W gi [.int .i64 3,.int .i64 6])→Hid ((m:Int)<2)→X 5 #[true,true,true,true,false,true,false,false,false,false] a_ W:=by
   intro W gi m a_ ea A I N;subst ea;refine ho_ _ _ _ _ ?_;rw [ha0];try simp only [zP,zA,zB,zC]
   refine wpAnyHL_ready (rs:=[4,6]) (by kernel_rfl) (by simp) ?_;refine AllReadyHL.cons (o:=⟨some 65,.load _ _,_,_,_,_⟩) rfl (fun K hK=>?_) (AllReadyHL.cons (o:=⟨some 67,.buildSlice _ _ _,_,_,_,_⟩) rfl (fun K hK=>?_) (AllReadyHL.nil))
   ·
    have M0:=N.out;obtain ⟨Q,N0,ck⟩:=I.out.pick2 N.out;go_simp;exact hK.out _ _ (fun _=>by trivial) (hi_ _ _ _ _ (U0 W gi m Q _ (by rw [ha0];rfl) A (Lh_ N0)))
   go_simp;obtain ⟨V,hV⟩:∃ z,W.alloc (.cells #[.string ⟨#[48,54,54,48]⟩,.string ⟨#[54,54,54]⟩,.string ⟨#[57]⟩,.string ⟨#[36,114,101,115,117,108,116]⟩] 9)=z:=⟨_,rfl⟩;obtain ⟨L,J,x3⟩:=A.out.box hV;try rw [hV]
   exact hK.out _ _ (fun _=>by trivial) (hi_ _ _ _ _ (K0 V gi m W.heap.size _ (by rw [ha0];rfl) (Lh_ L) (Lh_ (I.out.low x3)) N (Lh_ J)))
  have V0:∀ (W:World) (gi:Nat) (gu:Nat),∀ a_,a_=((a0.put (some 61) (.slice (some ⟨gi,0,none⟩) 2 2)).put (some 67) (.slice (some ⟨gu,0,none⟩) 4 4))→Hid (As1 w B b xs (k+1) W)→Hid (As2 w b W gi [.int .i64 3,.int .i64 6])→Hid (As2 w b W gu [.string ⟨#[48,54,54,48]⟩,.string ⟨#[54,54,54]⟩,.string ⟨#[57]⟩,.string ⟨#[36,114,101,115,117,108,116]⟩])→X 6 #[true,true,false,false,false,true,true,false,false,false] a_ W:=by
   intro W gi gu a_ ea A I U;subst ea;refine ho_ _ _ _ _ ?_;rw [ha0];try simp only [zP,zA,zB,zC]
   refine rdL 2 (o:=⟨some 63,.call ⟨_,_,_⟩,_,_,_,_⟩) rfl (fun K hK=>?_);go_simp;go_at_call 12;refine (Next_lit 2 xs (k+1) B b W (by have:=HK.out;omega) A.out.1 (by decide) (by decide)).mono ?_;rintro e' V ⟨nn,G,D,rfl,L,J⟩;obtain ⟨m,rfl⟩:∃ m:Nat,nn=m:=⟨nn.toNat,by omega⟩;refine hK.out _ _ (fun _=>(by trivial)) ?_;clear hK K;try simp only [zP,zA,zB,zC]
   refine tkL 3 64 (.pointer (some ⟨gi,m,none⟩)) rfl (fun w' hS=>by go_simp) (by trivial) ?_;try simp only [zP,zA,zB,zC]
   exact hi_ _ _ _ _ (K0 V gi m gu _ (by rw [ha0];rfl) (Lh_ (A.out.read L J)) (Lh_ (I.out.read J)) (Lh_ D) (Lh_ (U.out.read J)))
  have W0:∀ (W:World) (m:Nat) (gu:Nat),∀ a_,a_=((a0.put (some 63) (.int .i64 (m:Int))).put (some 67) (.slice (some ⟨gu,0,none⟩) 4 4))→Hid (As1 w B b xs (k+1+1) W)→Hid ((m:Int)<2)→Hid (As2 w b W gu [.string ⟨#[48,54,54,48]⟩,.string ⟨#[54,54,54]⟩,.string ⟨#[57]⟩,.string ⟨#[36,114,101,115,117,108,116]⟩])→X 6 #[false,true,true,false,false,true,true,false,false,false] a_ W:=by
   intro W m gu a_ ea A N U;subst ea;refine ho_ _ _ _ _ ?_;rw [ha0];try simp only [zP,zA,zB,zC]
   refine wpAnyHL_ready (rs:=[0,7]) (by kernel_rfl) (by simp) ?_;refine AllReadyHL.cons (o:=⟨some 61,.buildSlice _ _ _,_,_,_,_⟩) rfl (fun K hK=>?_) (AllReadyHL.cons (o:=⟨some 68,.call ⟨_,_,_⟩,_,_,_,_⟩) rfl (fun K hK=>?_) (AllReadyHL.nil))
   ·
    go_simp;obtain ⟨V,hV⟩:∃ z,W.alloc (.cells #[.int .i64 3,.int .i64 6] 3)=z:=⟨_,rfl⟩;obtain ⟨L,J,x3⟩:=A.out.box hV;try rw [hV]
    refine hK.out _ _ (fun _=>(by trivial)) ?_;clear hK K;try simp only [zP,zA,zB,zC]
    refine tkL 3 64 (.pointer (some ⟨W.heap.size,m,none⟩)) rfl (fun w' hS=>by (have M0:=N.out;go_simp)) (by trivial) ?_;try simp only [zP,zA,zB,zC]
    exact hi_ _ _ _ _ (K0 V W.heap.size m gu _ (by rw [ha0];rfl) (Lh_ L) (Lh_ J) N (Lh_ (U.out.low x3)))
   go_simp;go_at_call 13;refine (One_box asV19 xs (k+1+1) B b gu 4 W rfl (by have:=HK.out;omega) A.out.1 (by decide) (by decide) (show BoxL _ _ (asV19.map Value.string) from U.out.1) U.out.ne).mono ?_;rintro e' V ⟨y,E,rfl,L,J⟩;exact hK.out _ _ (fun _=>by trivial) (hi_ _ _ _ _ (X0 V m gu y _ (by rw [ha0];rfl) (Lh_ (A.out.read L J)) N (Lh_ (asV19_small y E))))
  have H0:∀ (W:World) (gi:Nat),∀ a_,a_=(a0.put (some 61) (.slice (some ⟨gi,0,none⟩) 2 2))→Hid (As1 w B b xs (k+1) W)→Hid (As2 w b W gi [.int .i64 3,.int .i64 6])→X 7 #[true,true,false,false,false,true,false,false,false,false] a_ W:=by
   intro W gi a_ ea A I;subst ea;refine ho_ _ _ _ _ ?_;rw [ha0];try simp only [zP,zA,zB,zC]
   refine wpAnyHL_ready (rs:=[2,6]) (by kernel_rfl) (by simp) ?_;refine AllReadyHL.cons (o:=⟨some 63,.call ⟨_,_,_⟩,_,_,_,_⟩) rfl (fun K hK=>?_) (AllReadyHL.cons (o:=⟨some 67,.buildSlice _ _ _,_,_,_,_⟩) rfl (fun K hK=>?_) (AllReadyHL.nil))
   ·
    go_simp;go_at_call 12;refine (Next_lit 2 xs (k+1) B b W (by have:=HK.out;omega) A.out.1 (by decide) (by decide)).mono ?_;rintro e' V ⟨nn,G,D,rfl,L,J⟩;obtain ⟨m,rfl⟩:∃ m:Nat,nn=m:=⟨nn.toNat,by omega⟩;refine hK.out _ _ (fun _=>(by trivial)) ?_;clear hK K;try simp only [zP,zA,zB,zC]
    refine tkL 3 64 (.pointer (some ⟨gi,m,none⟩)) rfl (fun w' hS=>by go_simp) (by trivial) ?_;try simp only [zP,zA,zB,zC]
    exact hi_ _ _ _ _ (T0 V gi m _ (by rw [ha0];rfl) (Lh_ (A.out.read L J)) (Lh_ (I.out.read J)) (Lh_ D))
   go_simp;obtain ⟨V,hV⟩:∃ z,W.alloc (.cells #[.string ⟨#[48,54,54,48]⟩,.string ⟨#[54,54,54]⟩,.string ⟨#[57]⟩,.string ⟨#[36,114,101,115,117,108,116]⟩] 9)=z:=⟨_,rfl⟩;obtain ⟨L,J,x3⟩:=A.out.box hV;try rw [hV]
   exact hK.out _ _ (fun _=>by trivial) (hi_ _ _ _ _ (V0 V gi W.heap.size _ (by rw [ha0];rfl) (Lh_ L) (Lh_ (I.out.low x3)) (Lh_ J)))
  have H2:∀ (W:World) (m:Nat),∀ a_,a_=(a0.put (some 63) (.int .i64 (m:Int)))→Hid (As1 w B b xs (k+1+1) W)→Hid ((m:Int)<2)→X 7 #[false,true,true,false,false,true,false,false,false,false] a_ W:=by
   intro W m a_ ea A N;subst ea;refine ho_ _ _ _ _ ?_;rw [ha0];try simp only [zP,zA,zB,zC]
   refine wpAnyHL_ready (rs:=[0,6]) (by kernel_rfl) (by simp) ?_;refine AllReadyHL.cons (o:=⟨some 61,.buildSlice _ _ _,_,_,_,_⟩) rfl (fun K hK=>?_) (AllReadyHL.cons (o:=⟨some 67,.buildSlice _ _ _,_,_,_,_⟩) rfl (fun K hK=>?_) (AllReadyHL.nil))
   ·
    go_simp;obtain ⟨V,hV⟩:∃ z,W.alloc (.cells #[.int .i64 3,.int .i64 6] 3)=z:=⟨_,rfl⟩;obtain ⟨L,J,x3⟩:=A.out.box hV;try rw [hV]
    refine hK.out _ _ (fun _=>(by trivial)) ?_;clear hK K;try simp only [zP,zA,zB,zC]
    refine tkL 3 64 (.pointer (some ⟨W.heap.size,m,none⟩)) rfl (fun w' hS=>by (have M0:=N.out;go_simp)) (by trivial) ?_;try simp only [zP,zA,zB,zC]
    exact hi_ _ _ _ _ (T0 V W.heap.size m _ (by rw [ha0];rfl) (Lh_ L) (Lh_ J) N)
   go_simp;obtain ⟨V,hV⟩:∃ z,W.alloc (.cells #[.string ⟨#[48,54,54,48]⟩,.string ⟨#[54,54,54]⟩,.string ⟨#[57]⟩,.string ⟨#[36,114,101,115,117,108,116]⟩] 9)=z:=⟨_,rfl⟩;obtain ⟨L,J,x3⟩:=A.out.box hV;try rw [hV]
   exact hK.out _ _ (fun _=>by trivial) (hi_ _ _ _ _ (W0 V m W.heap.size _ (by rw [ha0];rfl) (Lh_ L) N (Lh_ J)))
  have H6:∀ (W:World) (gu:Nat),∀ a_,a_=(a0.put (some 67) (.slice (some ⟨gu,0,none⟩) 4 4))→Hid (As1 w B b xs (k+1) W)→Hid (As2 w b W gu [.string ⟨#[48,54,54,48]⟩,.string ⟨#[54,54,54]⟩,.string ⟨#[57]⟩,.string ⟨#[36,114,101,115,117,108,116]⟩])→X 7 #[false,true,false,false,false,true,true,false,false,false] a_ W:=by
   intro W gu a_ ea A U;subst ea;refine ho_ _ _ _ _ ?_;rw [ha0];try simp only [zP,zA,zB,zC]
   refine wpAnyHL_ready (rs:=[0,2]) (by kernel_rfl) (by simp) ?_;refine AllReadyHL.cons (o:=⟨some 61,.buildSlice _ _ _,_,_,_,_⟩) rfl (fun K hK=>?_) (AllReadyHL.cons (o:=⟨some 63,.call ⟨_,_,_⟩,_,_,_,_⟩) rfl (fun K hK=>?_) (AllReadyHL.nil))
   ·
    go_simp;obtain ⟨V,hV⟩:∃ z,W.alloc (.cells #[.int .i64 3,.int .i64 6] 3)=z:=⟨_,rfl⟩;obtain ⟨L,J,x3⟩:=A.out.box hV;try rw [hV]
    exact hK.out _ _ (fun _=>by trivial) (hi_ _ _ _ _ (V0 V W.heap.size gu _ (by rw [ha0];rfl) (Lh_ L) (Lh_ J) (Lh_ (U.out.low x3))))
   go_simp;go_at_call 12;refine (Next_lit 2 xs (k+1) B b W (by have:=HK.out;omega) A.out.1 (by decide) (by decide)).mono ?_;rintro e' V ⟨nn,G,D,rfl,L,J⟩;obtain ⟨m,rfl⟩:∃ m:Nat,nn=m:=⟨nn.toNat,by omega⟩;exact hK.out _ _ (fun _=>by trivial) (hi_ _ _ _ _ (W0 V m gu _ (by rw [ha0];rfl) (Lh_ (A.out.read L J)) (Lh_ D) (Lh_ (U.out.read J))))
  have H:∀ (W:World),∀ a_,a_=a0→Hid (As1 w B b xs (k+1) W)→X 8 #[false,true,false,false,false,true,false,false,false,false] a_ W:=by
   intro W a_ ea A;subst ea;refine ho_ _ _ _ _ ?_;rw [ha0];try simp only [zP,zA,zB,zC]
   refine wpAnyHL_ready (rs:=[0,2,6]) (by kernel_rfl) (by simp) ?_;refine AllReadyHL.cons (o:=⟨some 61,.buildSlice _ _ _,_,_,_,_⟩) rfl (fun K hK=>?_) (AllReadyHL.cons (o:=⟨some 63,.call ⟨_,_,_⟩,_,_,_,_⟩) rfl (fun K hK=>?_) (AllReadyHL.cons (o:=⟨some 67,.buildSlice _ _ _,_,_,_,_⟩) rfl (fun K hK=>?_) (AllReadyHL.nil)))
   ·
    go_simp;obtain ⟨V,hV⟩:∃ z,W.alloc (.cells #[.int .i64 3,.int .i64 6] 3)=z:=⟨_,rfl⟩;obtain ⟨L,J,x3⟩:=A.out.box hV;try rw [hV]
    exact hK.out _ _ (fun _=>by trivial) (hi_ _ _ _ _ (H0 V W.heap.size _ (by rw [ha0];rfl) (Lh_ L) (Lh_ J)))
   ·
    go_simp;go_at_call 12;refine (Next_lit 2 xs (k+1) B b W (by have:=HK.out;omega) A.out.1 (by decide) (by decide)).mono ?_;rintro e' V ⟨nn,G,D,rfl,L,J⟩;obtain ⟨m,rfl⟩:∃ m:Nat,nn=m:=⟨nn.toNat,by omega⟩;exact hK.out _ _ (fun _=>by trivial) (hi_ _ _ _ _ (H2 V m _ (by rw [ha0];rfl) (Lh_ (A.out.read L J)) (Lh_ D)))
   go_simp;obtain ⟨V,hV⟩:∃ z,W.alloc (.cells #[.string ⟨#[48,54,54,48]⟩,.string ⟨#[54,54,54]⟩,.string ⟨#[57]⟩,.string ⟨#[36,114,101,115,117,108,116]⟩] 9)=z:=⟨_,rfl⟩;obtain ⟨L,J,x3⟩:=A.out.box hV;try rw [hV]
   exact hK.out _ _ (fun _=>by trivial) (hi_ _ _ _ _ (H6 V W.heap.size _ (by rw [ha0];rfl) (Lh_ L) (Lh_ J)))
  exact H wd a0 rfl Z0
 have e9:(s == 9)=false:=by simpa using s9
 by_cases s10:s=10
 ·
  have I2:(s == 10)=true:=by rw [s10];rfl
  clear s10;go_upto_region 19 with fail
  refine wp_region_held_late (S:=fun w'=>w'=w') (late:=fun i=>decide (9≤i)) (by kernel_rfl) ?_;obtain ⟨wd,hwd⟩:∃ z,World.drew v2=z:=⟨_,rfl⟩;rw [hwd];have Y0:Below v2.heap.size v2 wd:=by rw [← hwd];exact below_drewN_self _ _ 1
  clear hwd;have Z0:=Lh_ (D0.out.low Y0);clear Y0;refine tkL 1 73 (.pointer (some ⟨b,0,none⟩)) rfl (fun w' hS=>by go_simp) (by trivial) ?_;try simp only [zP,zA,zB,zC]
  refine tkL 5 77 (.pointer (some ⟨b,0,none⟩)) rfl (fun w' hS=>by go_simp) (by trivial) ?_;try simp only [zP,zA,zB,zC]
  refine meetHL fun X hi_ ho_ a0 ha0=>?_
  have F0:∀ (W:World) (gi:Nat) (m:Nat) (Q:Int) (gu:Nat) (y:ByteArray),∀ a_,a_=((((((a0.put (some 72) (.slice (some ⟨gi,0,none⟩) 3 3)).put (some 74) (.int .i64 (m:Int))).put (some 75) (.pointer (some ⟨gi,m,none⟩))).put (some 76) (.int .i64 Q)).put (some 78) (.slice (some ⟨gu,0,none⟩) 3 3)).put (some 79) (.string y))→Hid (As1 w B b xs (k+1+1+1) W)→Hid (Q=3∨Q=4∨Q=6)→Hid (y.size≤100)→X 2 #[true,true,true,true,true,true,true,true,false,false] a_ W:=by
   intro W gi m Q gu y a_ ea A O Y;subst ea;refine ho_ _ _ _ _ ?_;rw [ha0];try simp only [zP,zA,zB,zC]
   refine tkL 8 80 (.agg #[.int .i64 20,.string ByteArray.empty,.int .i64 Q,.string y]) rfl (fun w' hS=>by (go_simp;try rfl)) (by trivial) ?_;try simp only [zP,zA,zB,zC]
   refine rdL 9 (o:=⟨none,.store _ _ _,_,_,_,_⟩) rfl (fun K hK=>?_);obtain ⟨Z,A0,B0,C0,T⟩:=A.out.rows;go_simp;refine hK.out _ _ (fun h_=>by cases h_) ?_;clear hK K;try simp only [zP,zA,zB,zC]
   refine wpAnyHL_done (by kernel_rfl) ?_ _;go_wp2;refine bodyPost_ret (v:=.agg #[.int .i64 20,.string ByteArray.empty,.int .i64 Q,.string y]) (by simp [results,Tryz.results56,go_sem,Z,A0,B0,C0,T] <;> rfl) rfl ?_;have M:=A.out.fin (.int .i64 20) (.string ByteArray.empty) (.int .i64 Q) (.string y);exact ⟨⟨20,ByteArray.empty,Q,y⟩,3,rfl,mkX (by omega) (by have:=O.out;omega) (by decide) Y.out (fun h=>absurd h (by decide)) (fun h=>absurd h (by decide)),Y.out,by decide,M.1,M.2⟩
  have J0:∀ (W:World) (gi:Nat) (m:Nat) (Q:Int) (gu:Nat),∀ a_,a_=(((((a0.put (some 72) (.slice (some ⟨gi,0,none⟩) 3 3)).put (some 74) (.int .i64 (m:Int))).put (some 75) (.pointer (some ⟨gi,m,none⟩))).put (some 76) (.int .i64 Q)).put (some 78) (.slice (some ⟨gu,0,none⟩) 3 3))→Hid (As1 w B b xs (k+1+1) W)→Hid (Q=3∨Q=4∨Q=6)→Hid (As2 w b W gu [.string ⟨#[97,99,116,32,37,107]⟩,.string ⟨#[]⟩,.string ⟨#[108,111,103]⟩])→X 3 #[true,true,true,true,true,true,true,false,false,false] a_ W:=by
   intro W gi m Q gu a_ ea A O U;subst ea;refine ho_ _ _ _ _ ?_;rw [ha0];try simp only [zP,zA,zB,zC]
   refine rdL 7 (o:=⟨some 79,.call ⟨_,_,_⟩,_,_,_,_⟩) rfl (fun K hK=>?_);go_simp;go_at_call 13;refine (One_box asV20 xs (k+1+1) B b gu 3 W rfl (by have:=HK.out;omega) A.out.1 (by decide) (by decide) (show BoxL _ _ (asV20.map Value.string) from U.out.1) U.out.ne).mono ?_;rintro e' V ⟨y,E,rfl,L,J⟩;exact hK.out _ _ (fun _=>by trivial) (hi_ _ _ _ _ (F0 V gi m Q gu y _ (by rw [ha0];rfl) (Lh_ (A.out.read L J)) O (Lh_ (asV20_small y E))))
  have L0:∀ (W:World) (gi:Nat) (m:Nat) (gu:Nat) (y:ByteArray),∀ a_,a_=(((((a0.put (some 72) (.slice (some ⟨gi,0,none⟩) 3 3)).put (some 74) (.int .i64 (m:Int))).put (some 75) (.pointer (some ⟨gi,m,none⟩))).put (some 78) (.slice (some ⟨gu,0,none⟩) 3 3)).put (some 79) (.string y))→Hid (As1 w B b xs (k+1+1+1) W)→Hid (As2 w b W gi [.int .i64 3,.int .i64 4,.int .i64 6])→Hid ((m:Int)<3)→Hid (y.size≤100)→X 3 #[true,true,true,true,false,true,true,true,false,false] a_ W:=by
   intro W gi m gu y a_ ea A I N Y;subst ea;refine ho_ _ _ _ _ ?_;rw [ha0];try simp only [zP,zA,zB,zC]
   refine rdL 4 (o:=⟨some 76,.load _ _,_,_,_,_⟩) rfl (fun K hK=>?_);have M0:=N.out;obtain ⟨Q,N0,ck⟩:=I.out.pick3 N.out;go_simp;exact hK.out _ _ (fun _=>by trivial) (hi_ _ _ _ _ (F0 W gi m Q gu y _ (by rw [ha0];rfl) A (Lh_ N0) Y))
  have U0:∀ (W:World) (gi:Nat) (m:Nat) (Q:Int),∀ a_,a_=((((a0.put (some 72) (.slice (some ⟨gi,0,none⟩) 3 3)).put (some 74) (.int .i64 (m:Int))).put (some 75) (.pointer (some ⟨gi,m,none⟩))).put (some 76) (.int .i64 Q))→Hid (As1 w B b xs (k+1+1) W)→Hid (Q=3∨Q=4∨Q=6)→X 4 #[true,true,true,true,true,true,false,false,false,false] a_ W:=by
   intro W gi m Q a_ ea A O;subst ea;refine ho_ _ _ _ _ ?_;rw [ha0];try simp only [zP,zA,zB,zC]
   refine rdL 6 (o:=⟨some 78,.buildSlice _ _ _,_,_,_,_⟩) rfl (fun K hK=>?_);go_simp;obtain ⟨V,hV⟩:∃ z,W.alloc (.cells #[.string ⟨#[97,99,116,32,37,107]⟩,.string ⟨#[]⟩,.string ⟨#[108,111,103]⟩] 9)=z:=⟨_,rfl⟩;obtain ⟨L,J,x3⟩:=A.out.box hV;try rw [hV]
   exact hK.out _ _ (fun _=>by trivial) (hi_ _ _ _ _ (J0 V gi m Q W.heap.size _ (by rw [ha0];rfl) (Lh_ L) O (Lh_ J)))
  have K0:∀ (W:World) (gi:Nat) (m:Nat) (gu:Nat),∀ a_,a_=((((a0.put (some 72) (.slice (some ⟨gi,0,none⟩) 3 3)).put (some 74) (.int .i64 (m:Int))).put (some 75) (.pointer (some ⟨gi,m,none⟩))).put (some 78) (.slice (some ⟨gu,0,none⟩) 3 3))→Hid (As1 w B b xs (k+1+1) W)→Hid (As2 w b W gi [.int .i64 3,.int .i64 4,.int .i64 6])→Hid ((m:Int)<3)→Hid (As2 w b W gu [.string ⟨#[97,99,116,32,37,107]⟩,.string ⟨#[]⟩,.string ⟨#[108,111,103]⟩])→X 4 #[true,true,true,true,false,true,true,false,false,false] a_ W:=by
   intro W gi m gu a_ ea A I N U;subst ea;refine ho_ _ _ _ _ ?_;rw [ha0];try simp only [zP,zA,zB,zC]
   refine wpAnyHL_ready (rs:=[4,7]) (by kernel_rfl) (by simp) ?_;refine AllReadyHL.cons (o:=⟨some 76,.load _ _,_,_,_,_⟩) rfl (fun K hK=>?_) (AllReadyHL.cons (o:=⟨some 79,.call ⟨_,_,_⟩,_,_,_,_⟩) rfl (fun K hK=>?_) (AllReadyHL.nil))
   ·
    have M0:=N.out;obtain ⟨Q,N0,ck⟩:=I.out.pick3 N.out;go_simp;exact hK.out _ _ (fun _=>by trivial) (hi_ _ _ _ _ (J0 W gi m Q gu _ (by rw [ha0];rfl) A (Lh_ N0) U))
   go_simp;go_at_call 13;refine (One_box asV20 xs (k+1+1) B b gu 3 W rfl (by have:=HK.out;omega) A.out.1 (by decide) (by decide) (show BoxL _ _ (asV20.map Value.string) from U.out.1) U.out.ne).mono ?_;rintro e' V ⟨y,E,rfl,L,J⟩;exact hK.out _ _ (fun _=>by trivial) (hi_ _ _ _ _ (L0 V gi m gu y _ (by rw [ha0];rfl) (Lh_ (A.out.read L J)) (Lh_ (I.out.read J)) N (Lh_ (asV20_small y E))))
  have X0:∀ (W:World) (m:Nat) (gu:Nat) (y:ByteArray),∀ a_,a_=(((a0.put (some 74) (.int .i64 (m:Int))).put (some 78) (.slice (some ⟨gu,0,none⟩) 3 3)).put (some 79) (.string y))→Hid (As1 w B b xs (k+1+1+1) W)→Hid ((m:Int)<3)→Hid (y.size≤100)→X 5 #[false,true,true,false,false,true,true,true,false,false] a_ W:=by
   intro W m gu y a_ ea A N Y;subst ea;refine ho_ _ _ _ _ ?_;rw [ha0];try simp only [zP,zA,zB,zC]
   refine rdL 0 (o:=⟨some 72,.buildSlice _ _ _,_,_,_,_⟩) rfl (fun K hK=>?_);go_simp;obtain ⟨V,hV⟩:∃ z,W.alloc (.cells #[.int .i64 3,.int .i64 4,.int .i64 6] 3)=z:=⟨_,rfl⟩;obtain ⟨L,J,x3⟩:=A.out.box hV;try rw [hV]
   refine hK.out _ _ (fun _=>(by trivial)) ?_;clear hK K;try simp only [zP,zA,zB,zC]
   refine tkL 3 75 (.pointer (some ⟨W.heap.size,m,none⟩)) rfl (fun w' hS=>by (have M0:=N.out;go_simp)) (by trivial) ?_;try simp only [zP,zA,zB,zC]
   exact hi_ _ _ _ _ (L0 V W.heap.size m gu y _ (by rw [ha0];rfl) (Lh_ L) (Lh_ J) N Y)
  have T0:∀ (W:World) (gi:Nat) (m:Nat),∀ a_,a_=(((a0.put (some 72) (.slice (some ⟨gi,0,none⟩) 3 3)).put (some 74) (.int .i64 (m:Int))).put (some 75) (.pointer (some ⟨gi,m,none⟩)))→Hid (As1 w B b xs (k+1+1) W)→Hid (As2 w b W gi [.int .i64 3,.int .i64 4,.int .i64 6])→Hid ((m:Int)<3)→X 5 #[true,true,true,true,false,true,false,false,false,false] a_ W:=by
   intro W gi m a_ ea A I N;subst ea;refine ho_ _ _ _ _ ?_;rw [ha0];try simp only [zP,zA,zB,zC]
   refine wpAnyHL_ready (rs:=[4,6]) (by kernel_rfl) (by simp) ?_;refine AllReadyHL.cons (o:=⟨some 76,.load _ _,_,_,_,_⟩) rfl (fun K hK=>?_) (AllReadyHL.cons (o:=⟨some 78,.buildSlice _ _ _,_,_,_,_⟩) rfl (fun K hK=>?_) (AllReadyHL.nil))
   ·
    have M0:=N.out;obtain ⟨Q,N0,ck⟩:=I.out.pick3 N.out;go_simp;exact hK.out _ _ (fun _=>by trivial) (hi_ _ _ _ _ (U0 W gi m Q _ (by rw [ha0];rfl) A (Lh_ N0)))
   go_simp;obtain ⟨V,hV⟩:∃ z,W.alloc (.cells #[.string ⟨#[97,99,116,32,37,107]⟩,.string ⟨#[]⟩,.string ⟨#[108,111,103]⟩] 9)=z:=⟨_,rfl⟩;obtain ⟨L,J,x3⟩:=A.out.box hV;try rw [hV]
   exact hK.out _ _ (fun _=>by trivial) (hi_ _ _ _ _ (K0 V gi m W.heap.size _ (by rw [ha0];rfl) (Lh_ L) (Lh_ (I.out.low x3)) N (Lh_ J)))
  have V0:∀ (W:World) (gi:Nat) (gu:Nat),∀ a_,a_=((a0.put (some 72) (.slice (some ⟨gi,0,none⟩) 3 3)).put (some 78) (.slice (some ⟨gu,0,none⟩) 3 3))→Hid (As1 w B b xs (k+1) W)→Hid (As2 w b W gi [.int .i64 3,.int .i64 4,.int .i64 6])→Hid (As2 w b W gu [.string ⟨#[97,99,116,32,37,107]⟩,.string ⟨#[]⟩,.string ⟨#[108,111,103]⟩])→X 6 #[true,true,false,false,false,true,true,false,false,false] a_ W:=by
   intro W gi gu a_ ea A I U;subst ea;refine ho_ _ _ _ _ ?_;rw [ha0];try simp only [zP,zA,zB,zC]
   refine rdL 2 (o:=⟨some 74,.call ⟨_,_,_⟩,_,_,_,_⟩) rfl (fun K hK=>?_);go_simp;go_at_call 12;refine (Next_lit 3 xs (k+1) B b W (by have:=HK.out;omega) A.out.1 (by decide) (by decide)).mono ?_;rintro e' V ⟨nn,G,D,rfl,L,J⟩;obtain ⟨m,rfl⟩:∃ m:Nat,nn=m:=⟨nn.toNat,by omega⟩;refine hK.out _ _ (fun _=>(by trivial)) ?_;clear hK K;try simp only [zP,zA,zB,zC]
   refine tkL 3 75 (.pointer (some ⟨gi,m,none⟩)) rfl (fun w' hS=>by go_simp) (by trivial) ?_;try simp only [zP,zA,zB,zC]
   exact hi_ _ _ _ _ (K0 V gi m gu _ (by rw [ha0];rfl) (Lh_ (A.out.read L J)) (Lh_ (I.out.read J)) (Lh_ D) (Lh_ (U.out.read J)))
  have W0:∀ (W:World) (m:Nat) (gu:Nat),∀ a_,a_=((a0.put (some 74) (.int .i64 (m:Int))).put (some 78) (.slice (some ⟨gu,0,none⟩) 3 3))→Hid (As1 w B b xs (k+1+1) W)→Hid ((m:Int)<3)→Hid (As2 w b W gu [.string ⟨#[97,99,116,32,37,107]⟩,.string ⟨#[]⟩,.string ⟨#[108,111,103]⟩])→X 6 #[false,true,true,false,false,true,true,false,false,false] a_ W:=by
   intro W m gu a_ ea A N U;subst ea;refine ho_ _ _ _ _ ?_;rw [ha0];try simp only [zP,zA,zB,zC]
   refine wpAnyHL_ready (rs:=[0,7]) (by kernel_rfl) (by simp) ?_;refine AllReadyHL.cons (o:=⟨some 72,.buildSlice _ _ _,_,_,_,_⟩) rfl (fun K hK=>?_) (AllReadyHL.cons (o:=⟨some 79,.call ⟨_,_,_⟩,_,_,_,_⟩) rfl (fun K hK=>?_) (AllReadyHL.nil))
   ·
    go_simp;obtain ⟨V,hV⟩:∃ z,W.alloc (.cells #[.int .i64 3,.int .i64 4,.int .i64 6] 3)=z:=⟨_,rfl⟩;obtain ⟨L,J,x3⟩:=A.out.box hV;try rw [hV]
    refine hK.out _ _ (fun _=>(by trivial)) ?_;clear hK K;try simp only [zP,zA,zB,zC]
    refine tkL 3 75 (.pointer (some ⟨W.heap.size,m,none⟩)) rfl (fun w' hS=>by (have M0:=N.out;go_simp)) (by trivial) ?_;try simp only [zP,zA,zB,zC]
    exact hi_ _ _ _ _ (K0 V W.heap.size m gu _ (by rw [ha0];rfl) (Lh_ L) (Lh_ J) N (Lh_ (U.out.low x3)))
   go_simp;go_at_call 13;refine (One_box asV20 xs (k+1+1) B b gu 3 W rfl (by have:=HK.out;omega) A.out.1 (by decide) (by decide) (show BoxL _ _ (asV20.map Value.string) from U.out.1) U.out.ne).mono ?_;rintro e' V ⟨y,E,rfl,L,J⟩;exact hK.out _ _ (fun _=>by trivial) (hi_ _ _ _ _ (X0 V m gu y _ (by rw [ha0];rfl) (Lh_ (A.out.read L J)) N (Lh_ (asV20_small y E))))
  have H0:∀ (W:World) (gi:Nat),∀ a_,a_=(a0.put (some 72) (.slice (some ⟨gi,0,none⟩) 3 3))→Hid (As1 w B b xs (k+1) W)→Hid (As2 w b W gi [.int .i64 3,.int .i64 4,.int .i64 6])→X 7 #[true,true,false,false,false,true,false,false,false,false] a_ W:=by
   intro W gi a_ ea A I;subst ea;refine ho_ _ _ _ _ ?_;rw [ha0];try simp only [zP,zA,zB,zC]
   refine wpAnyHL_ready (rs:=[2,6]) (by kernel_rfl) (by simp) ?_;refine AllReadyHL.cons (o:=⟨some 74,.call ⟨_,_,_⟩,_,_,_,_⟩) rfl (fun K hK=>?_) (AllReadyHL.cons (o:=⟨some 78,.buildSlice _ _ _,_,_,_,_⟩) rfl (fun K hK=>?_) (AllReadyHL.nil))
   ·
    go_simp;go_at_call 12;refine (Next_lit 3 xs (k+1) B b W (by have:=HK.out;omega) A.out.1 (by decide) (by decide)).mono ?_;rintro e' V ⟨nn,G,D,rfl,L,J⟩;obtain ⟨m,rfl⟩:∃ m:Nat,nn=m:=⟨nn.toNat,by omega⟩;refine hK.out _ _ (fun _=>(by trivial)) ?_;clear hK K;try simp only [zP,zA,zB,zC]
    refine tkL 3 75 (.pointer (some ⟨gi,m,none⟩)) rfl (fun w' hS=>by go_simp) (by trivial) ?_;try simp only [zP,zA,zB,zC]
    exact hi_ _ _ _ _ (T0 V gi m _ (by rw [ha0];rfl) (Lh_ (A.out.read L J)) (Lh_ (I.out.read J)) (Lh_ D))
   go_simp;obtain ⟨V,hV⟩:∃ z,W.alloc (.cells #[.string ⟨#[97,99,116,32,37,107]⟩,.string ⟨#[]⟩,.string ⟨#[108,111,103]⟩] 9)=z:=⟨_,rfl⟩;obtain ⟨L,J,x3⟩:=A.out.box hV;try rw [hV]
   exact hK.out _ _ (fun _=>by trivial) (hi_ _ _ _ _ (V0 V gi W.heap.size _ (by rw [ha0];rfl) (Lh_ L) (Lh_ (I.out.low x3)) (Lh_ J)))
  have H2:∀ (W:World) (m:Nat),∀ a_,a_=(a0.put (some 74) (.int .i64 (m:Int)))→Hid (As1 w B b xs (k+1+1) W)→Hid ((m:Int)<3)→X 7 #[false,true,true,false,false,true,false,false,false,false] a_ W:=by
   intro W m a_ ea A N;subst ea;refine ho_ _ _ _ _ ?_;rw [ha0];try simp only [zP,zA,zB,zC]
   refine wpAnyHL_ready (rs:=[0,6]) (by kernel_rfl) (by simp) ?_;refine AllReadyHL.cons (o:=⟨some 72,.buildSlice _ _ _,_,_,_,_⟩) rfl (fun K hK=>?_) (AllReadyHL.cons (o:=⟨some 78,.buildSlice _ _ _,_,_,_,_⟩) rfl (fun K hK=>?_) (AllReadyHL.nil))
   ·
    go_simp;obtain ⟨V,hV⟩:∃ z,W.alloc (.cells #[.int .i64 3,.int .i64 4,.int .i64 6] 3)=z:=⟨_,rfl⟩;obtain ⟨L,J,x3⟩:=A.out.box hV;try rw [hV]
    refine hK.out _ _ (fun _=>(by trivial)) ?_;clear hK K;try simp only [zP,zA,zB,zC]
    refine tkL 3 75 (.pointer (some ⟨W.heap.size,m,none⟩)) rfl (fun w' hS=>by (have M0:=N.out;go_simp)) (by trivial) ?_;try simp only [zP,zA,zB,zC]
    exact hi_ _ _ _ _ (T0 V W.heap.size m _ (by rw [ha0];rfl) (Lh_ L) (Lh_ J) N)
   go_simp;obtain ⟨V,hV⟩:∃ z,W.alloc (.cells #[.string ⟨#[97,99,116,32,37,107]⟩,.string ⟨#[]⟩,.string ⟨#[108,111,103]⟩] 9)=z:=⟨_,rfl⟩;obtain ⟨L,J,x3⟩:=A.out.box hV;try rw [hV]
   exact hK.out _ _ (fun _=>by trivial) (hi_ _ _ _ _ (W0 V m W.heap.size _ (by rw [ha0];rfl) (Lh_ L) N (Lh_ J)))
  have H6:∀ (W:World) (gu:Nat),∀ a_,a_=(a0.put (some 78) (.slice (some ⟨gu,0,none⟩) 3 3))→Hid (As1 w B b xs (k+1) W)→Hid (As2 w b W gu [.string ⟨#[97,99,116,32,37,107]⟩,.string ⟨#[]⟩,.string ⟨#[108,111,103]⟩])→X 7 #[false,true,false,false,false,true,true,false,false,false] a_ W:=by
   intro W gu a_ ea A U;subst ea;refine ho_ _ _ _ _ ?_;rw [ha0];try simp only [zP,zA,zB,zC]
   refine wpAnyHL_ready (rs:=[0,2]) (by kernel_rfl) (by simp) ?_;refine AllReadyHL.cons (o:=⟨some 72,.buildSlice _ _ _,_,_,_,_⟩) rfl (fun K hK=>?_) (AllReadyHL.cons (o:=⟨some 74,.call ⟨_,_,_⟩,_,_,_,_⟩) rfl (fun K hK=>?_) (AllReadyHL.nil))
   ·
    go_simp;obtain ⟨V,hV⟩:∃ z,W.alloc (.cells #[.int .i64 3,.int .i64 4,.int .i64 6] 3)=z:=⟨_,rfl⟩;obtain ⟨L,J,x3⟩:=A.out.box hV;try rw [hV]
    exact hK.out _ _ (fun _=>by trivial) (hi_ _ _ _ _ (V0 V W.heap.size gu _ (by rw [ha0];rfl) (Lh_ L) (Lh_ J) (Lh_ (U.out.low x3))))
   go_simp;go_at_call 12;refine (Next_lit 3 xs (k+1) B b W (by have:=HK.out;omega) A.out.1 (by decide) (by decide)).mono ?_;rintro e' V ⟨nn,G,D,rfl,L,J⟩;obtain ⟨m,rfl⟩:∃ m:Nat,nn=m:=⟨nn.toNat,by omega⟩;exact hK.out _ _ (fun _=>by trivial) (hi_ _ _ _ _ (W0 V m gu _ (by rw [ha0];rfl) (Lh_ (A.out.read L J)) (Lh_ D) (Lh_ (U.out.read J))))
  have H:∀ (W:World),∀ a_,a_=a0→Hid (As1 w B b xs (k+1) W)→X 8 #[false,true,false,false,false,true,false,false,false,false] a_ W:=by
   intro W a_ ea A;subst ea;refine ho_ _ _ _ _ ?_;rw [ha0];try simp only [zP,zA,zB,zC]
   refine wpAnyHL_ready (rs:=[0,2,6]) (by kernel_rfl) (by simp) ?_;refine AllReadyHL.cons (o:=⟨some 72,.buildSlice _ _ _,_,_,_,_⟩) rfl (fun K hK=>?_) (AllReadyHL.cons (o:=⟨some 74,.call ⟨_,_,_⟩,_,_,_,_⟩) rfl (fun K hK=>?_) (AllReadyHL.cons (o:=⟨some 78,.buildSlice _ _ _,_,_,_,_⟩) rfl (fun K hK=>?_) (AllReadyHL.nil)))
   ·
    go_simp;obtain ⟨V,hV⟩:∃ z,W.alloc (.cells #[.int .i64 3,.int .i64 4,.int .i64 6] 3)=z:=⟨_,rfl⟩;obtain ⟨L,J,x3⟩:=A.out.box hV;try rw [hV]
    exact hK.out _ _ (fun _=>by trivial) (hi_ _ _ _ _ (H0 V W.heap.size _ (by rw [ha0];rfl) (Lh_ L) (Lh_ J)))
   ·
    go_simp;go_at_call 12;refine (Next_lit 3 xs (k+1) B b W (by have:=HK.out;omega) A.out.1 (by decide) (by decide)).mono ?_;rintro e' V ⟨nn,G,D,rfl,L,J⟩;obtain ⟨m,rfl⟩:∃ m:Nat,nn=m:=⟨nn.toNat,by omega⟩;exact hK.out _ _ (fun _=>by trivial) (hi_ _ _ _ _ (H2 V m _ (by rw [ha0];rfl) (Lh_ (A.out.read L J)) (Lh_ D)))
   go_simp;obtain ⟨V,hV⟩:∃ z,W.alloc (.cells #[.string ⟨#[97,99,116,32,37,107]⟩,.string ⟨#[]⟩,.string ⟨#[108,111,103]⟩] 9)=z:=⟨_,rfl⟩;obtain ⟨L,J,x3⟩:=A.out.box hV;try rw [hV]
   exact hK.out _ _ (fun _=>by trivial) (hi_ _ _ _ _ (H6 V W.heap.size _ (by rw [ha0];rfl) (Lh_ L) (Lh_ J)))
  exact H wd a0 rfl Z0
 have I2:(s == 10)=false:=by simpa using s10
 by_cases s11:s=11
 ·
  have J2:(s == 11)=true:=by rw [s11];rfl
  clear s11;go_wp2_with fail;refine (One_lit asV21 xs (k+1) B b #[.string ⟨#[117,115,98,58,118,49]⟩,.string ⟨#[117,115,98,58,118,50]⟩,.string ⟨#[]⟩,.string ⟨#[36,101,110,118,123,77,79,68,65,76,73,65,83,125]⟩] 9 v2 4 rfl rfl (by have:=HK.out;omega) D0.out.1 (by decide) (by decide)).mono ?_;rintro e v21 ⟨y,E,rfl,C,F⟩;have R:=Lh_ (asV21_small y E);have R0:=Lh_ E;clear E;have O1:=Lh_ (D0.out.read C F);clear C F;obtain ⟨Z,A0,B0,C0,T⟩:=O1.out.rows;go_wp2;refine bodyPost_ret (v:=.agg #[.int .i64 (21),.string ByteArray.empty,.int .i64 (4),.string y]) (by simp [results,Tryz.results56,go_sem,Z,A0,B0,C0,T] <;> rfl) rfl ?_;have M:=O1.out.fin (.int .i64 (21)) (.string ByteArray.empty) (.int .i64 (4)) (.string y);exact ⟨⟨21,ByteArray.empty,4,y⟩,2,rfl,mkX (by omega) (by omega) (by decide) R.out (fun h=>by first | (exact absurd h (by decide)) | (have h2:_=(6:Int):=h;omega)) (fun h=>by first | (exact absurd h (by decide)) | (have h2:_=(7:Int):=h;omega)),R.out,by decide,M.1,M.2⟩
 have J2:(s == 11)=false:=by simpa using s11
 by_cases s12:s=12
 ·
  have K2:(s == 12)=true:=by rw [s12];rfl
  clear s12;go_wp2_with fail;refine (One_lit asV21 xs (k+1) B b #[.string ⟨#[117,115,98,58,118,49]⟩,.string ⟨#[117,115,98,58,118,50]⟩,.string ⟨#[]⟩,.string ⟨#[36,101,110,118,123,77,79,68,65,76,73,65,83,125]⟩] 9 v2 4 rfl rfl (by have:=HK.out;omega) D0.out.1 (by decide) (by decide)).mono ?_;rintro e v22 ⟨y,E,rfl,C,F⟩;have R:=Lh_ (asV21_small y E);have R0:=Lh_ E;clear E;have P1:=Lh_ (D0.out.read C F);clear C F;obtain ⟨Z,A0,B0,C0,T⟩:=P1.out.rows;go_wp2;refine bodyPost_ret (v:=.agg #[.int .i64 (21),.string ByteArray.empty,.int .i64 (4),.string y]) (by simp [results,Tryz.results56,go_sem,Z,A0,B0,C0,T] <;> rfl) rfl ?_;have M:=P1.out.fin (.int .i64 (21)) (.string ByteArray.empty) (.int .i64 (4)) (.string y);exact ⟨⟨21,ByteArray.empty,4,y⟩,2,rfl,mkX (by omega) (by omega) (by decide) R.out (fun h=>by first | (exact absurd h (by decide)) | (have h2:_=(6:Int):=h;omega)) (fun h=>by first | (exact absurd h (by decide)) | (have h2:_=(7:Int):=h;omega)),R.out,by decide,M.1,M.2⟩
 have K2:(s == 12)=false:=by simpa using s12
 go_wp2_with fail;refine (One_lit asV22 xs (k+1) B b #[.string ⟨#[45,53]⟩,.string ⟨#[48]⟩,.string ⟨#[49,48]⟩,.string ⟨#[49,48,48]⟩] 9 v2 4 rfl rfl (by have:=HK.out;omega) D0.out.1 (by decide) (by decide)).mono ?_;rintro e v23 ⟨y,E,rfl,C,F⟩;have R:=Lh_ (asV22_small y E);have R0:=Lh_ E;clear E;have Q1:=Lh_ (D0.out.read C F);clear C F;obtain ⟨Z,A0,B0,C0,T⟩:=Q1.out.rows;go_wp2;refine bodyPost_ret (v:=.agg #[.int .i64 (22),.string ByteArray.empty,.int .i64 (3),.string y]) (by simp [results,Tryz.results56,go_sem,Z,A0,B0,C0,T] <;> rfl) rfl ?_;have M:=Q1.out.fin (.int .i64 (22)) (.string ByteArray.empty) (.int .i64 (3)) (.string y);exact ⟨⟨22,ByteArray.empty,3,y⟩,2,rfl,mkX (by omega) (by omega) (by decide) R.out (fun h=>by first | (exact absurd h (by decide)) | (have h2:_=(6:Int):=h;omega)) (fun h=>by first | (exact absurd h (by decide)) | (have h2:_=(7:Int):=h;omega)),R.out,by decide,M.1,M.2⟩
end Go.Cold
