/-
  Short words for steps in regions that draw their order. No program is named here.
-/
import Derived.Deep.RegionHeld
import Derived.Test.YtjpoljlgkgmdkaaGreatDoorMA
import Derived.Test.YtjpoljlgkgmdkaaGreatDoorRows
import Derived.Test.YtjpoljlgkgmdkaaGreatDoorMShf
import Derived.Shelf.Abstract
import Derived.Deep.DeepCutAuto
import Derived.Lib.QuietBelow
set_option linter.unusedSimpArgs false
set_option linter.unusedVariables false
namespace Go.Cold
open Go Go.RowKit Go.Proofs.YtjpoljlgkgmdkaaGreatDoor
open Go.Proofs hiding intOf
theorem Lh_ {p:Prop} (h:p):Hid p:=h
theorem sA_ {α:Type} (l:List α) (i:Nat) (a:α):l.toArray.setIfInBounds i a=(l.set i a).toArray:=List.setIfInBounds_toArray l i a
theorem sB_ {α:Type} (x a:α) (r:List α):(x :: r).set 0 a=a :: r:=rfl
theorem sC_ {α:Type} (x a:α) (r:List α) (n:Nat):(x :: r).set (n+1) a=x :: r.set n a:=rfl
section
variable {P:Program} {ops:Array Oper} {Q:Exit→Act→World→Prop} {md:Region.Mode} {S:World→Prop} {fuel:Nat} {listed:Array Bool} {a:Act} {w:World}
theorem tk1 (i d:Nat) (v:Value) {op:Op} {ty:TypeId} {pos:String} {af:Array Edge} {gd:Option (Nat × Bool)} (hi:ops[i]? = some ⟨some d,op,ty,pos,af,gd⟩)
  (y:∀ w',S w'→(execOp a.eval ⟨some d,op,ty,pos,af,gd⟩).run P w'=.ok (.value v) w') (hS:S w)
  (h:wpAnyH P md ops Q S fuel (listed.setIfInBounds i true) (a.put (some d) v) w)
  (hs:Region.noSelect ops=true:=by kernel_rfl) (hf:Region.free md ops listed i=true:=by kernel_rfl) (hr:(Region.ready md ops listed).contains i=true:=by kernel_rfl)
  (hQ:∀ c a w,Q (.panic c) (a.put (some d) v) w→Q (.panic c) a w:=by exact fun _ _ _ h=>h) (hw:Region.wanted ⟨some d,op,ty,pos,af,gd⟩ (yielded ops a.tmps)=true:=by rfl) :
  wpAnyH P md ops Q S (fuel+1) listed a w:=wpAnyH_take hi hs hf hr hQ (.inl ⟨hw,y⟩) hS h
theorem tk0 (i d:Nat) {op:Op} {ty:TypeId} {pos:String} {af:Array Edge} {gd:Option (Nat × Bool)} (hi:ops[i]? = some ⟨some d,op,ty,pos,af,gd⟩) (hS:S w)
  (h:wpAnyH P md ops Q S fuel (listed.setIfInBounds i true) (a.put (some d) undef) w)
  (hs:Region.noSelect ops=true:=by kernel_rfl) (hf:Region.free md ops listed i=true:=by kernel_rfl) (hr:(Region.ready md ops listed).contains i=true:=by kernel_rfl)
  (hQ:∀ c a w,Q (.panic c) (a.put (some d) undef) w→Q (.panic c) a w:=by exact fun _ _ _ h=>h) (hw:Region.wanted ⟨some d,op,ty,pos,af,gd⟩ (yielded ops a.tmps)=false:=by rfl) :
  wpAnyH P md ops Q S (fuel+1) listed a w:=wpAnyH_take hi hs hf hr hQ (.inr ⟨hw,rfl⟩) hS h
theorem rd1 (i:Nat) {o:Oper} (ho:ops[i]? = some o)
  (h:∀ K':Act→World→Prop,Shut (∀ a w,S w→(S w→wpAnyH P md ops Q S fuel (listed.setIfInBounds i true) a w)→K' a w)→if Region.wanted o (yielded ops a.tmps)=true then Oper.wp P o a w K' Q else K' (a.put o.dst undef) w)
  (hr:Region.ready md ops listed=[i]:=by kernel_rfl):wpAnyH P md ops Q S (fuel+1) listed a w:=wpAnyH_ready hr (by simp) (AllReadyH.cons ho h AllReadyH.nil)
end
theorem bx_ (w:World) (cs:List Value) (T:TypeId):∃ z,w.alloc (.cells cs.toArray T)=z∧Below w.heap.size w z∧Hid (z.heap.size=w.heap.size+1)∧Hid (BoxL z w.heap.size cs) :=
 ⟨_,rfl,(Below.refl _ _).alloc (Nat.le_refl _) _,Lh_ (by simp),Lh_ (box_mk rfl)⟩
theorem kb_ {w w':World} {g:Nat} {cs:List Value} (h:Hid (BoxL w g cs)) (hb:Below w.heap.size w w'):Hid (BoxL w' g cs):=h.out.kept (grown_none hb) (fun e=>by cases e)
theorem kg_ {w w':World} {g b:Nat} {cs:List Value} (h:Hid (BoxL w g cs)) (hg:w.grownBy w' (some b)) (hne:g≠b):Hid (BoxL w' g cs):=h.out.kept hg (fun e=>hne (Option.some.inj e))
theorem zP (a:Act) (d:Option Tmp) (v:Value):a.put d v=match d with | some d=>{ a with tmps:=a.tmps.setIfInBounds d v } | none=>a:=rfl
theorem zA {α:Type} (l:List α) (i:Nat) (a:α):l.toArray.setIfInBounds i a=(l.set i a).toArray:=List.setIfInBounds_toArray l i a
theorem zB {α:Type} (x a:α) (r:List α):(x :: r).set 0 a=a :: r:=rfl
theorem zC {α:Type} (x a:α) (r:List α) (n:Nat):(x :: r).set (n+1) a=x :: r.set n a:=rfl
theorem tb_ {a w w':World} (h:Hid (Below a.heap.size a w)) (hb:Below w.heap.size w w'):Hid (Below a.heap.size a w'):=h.out.trans (hb.mono h.out.size)
theorem s4_ {w:World} {g:Nat} {c0 c1 c2 c3:Value} {r:List Value} (h:∀ (j:Nat) u,(c0 :: c1 :: c2 :: c3 :: r)[j]? = some u→w.cell? ⟨g,j,none⟩=some u):w.cell? ⟨g,0,none⟩=some c0∧w.cell? ⟨g,1,none⟩=some c1∧w.cell? ⟨g,2,none⟩=some c2∧w.cell? ⟨g,3,none⟩=some c3:=⟨h 0 _ rfl,h 1 _ rfl,h 2 _ rfl,h 3 _ rfl⟩
theorem s7_ {w:World} {g:Nat} {c0 c1 c2 c3 c4 c5 c6:Value} {r:List Value} (h:∀ (j:Nat) u,(c0 :: c1 :: c2 :: c3 :: c4 :: c5 :: c6 :: r)[j]? = some u→w.cell? ⟨g,j,none⟩=some u):w.cell? ⟨g,0,none⟩=some c0∧w.cell? ⟨g,1,none⟩=some c1∧w.cell? ⟨g,2,none⟩=some c2∧w.cell? ⟨g,3,none⟩=some c3∧w.cell? ⟨g,4,none⟩=some c4∧w.cell? ⟨g,5,none⟩=some c5∧w.cell? ⟨g,6,none⟩=some c6:=⟨h 0 _ rfl,h 1 _ rfl,h 2 _ rfl,h 3 _ rfl,h 4 _ rfl,h 5 _ rfl,h 6 _ rfl⟩
theorem s10_ {w:World} {g:Nat} {c0 c1 c2 c3 c4 c5 c6 c7 c8 c9:Value} {r:List Value} (h:∀ (j:Nat) u,(c0 :: c1 :: c2 :: c3 :: c4 :: c5 :: c6 :: c7 :: c8 :: c9 :: r)[j]? = some u→w.cell? ⟨g,j,none⟩=some u):w.cell? ⟨g,0,none⟩=some c0∧w.cell? ⟨g,1,none⟩=some c1∧w.cell? ⟨g,2,none⟩=some c2∧w.cell? ⟨g,3,none⟩=some c3∧w.cell? ⟨g,4,none⟩=some c4∧w.cell? ⟨g,5,none⟩=some c5∧w.cell? ⟨g,6,none⟩=some c6∧w.cell? ⟨g,7,none⟩=some c7∧w.cell? ⟨g,8,none⟩=some c8∧w.cell? ⟨g,9,none⟩=some c9:=⟨h 0 _ rfl,h 1 _ rfl,h 2 _ rfl,h 3 _ rfl,h 4 _ rfl,h 5 _ rfl,h 6 _ rfl,h 7 _ rfl,h 8 _ rfl,h 9 _ rfl⟩
theorem s14_ {w:World} {g:Nat} {c0 c1 c2 c3 c4 c5 c6 c7 c8 c9 c10 c11 c12 c13:Value} {r:List Value} (h:∀ (j:Nat) u,(c0 :: c1 :: c2 :: c3 :: c4 :: c5 :: c6 :: c7 :: c8 :: c9 :: c10 :: c11 :: c12 :: c13 :: r)[j]? = some u→w.cell? ⟨g,j,none⟩=some u):w.cell? ⟨g,0,none⟩=some c0∧w.cell? ⟨g,1,none⟩=some c1∧w.cell? ⟨g,2,none⟩=some c2∧w.cell? ⟨g,3,none⟩=some c3∧w.cell? ⟨g,4,none⟩=some c4∧w.cell? ⟨g,5,none⟩=some c5∧w.cell? ⟨g,6,none⟩=some c6∧w.cell? ⟨g,7,none⟩=some c7∧w.cell? ⟨g,8,none⟩=some c8∧w.cell? ⟨g,9,none⟩=some c9∧w.cell? ⟨g,10,none⟩=some c10∧w.cell? ⟨g,11,none⟩=some c11∧w.cell? ⟨g,12,none⟩=some c12∧w.cell? ⟨g,13,none⟩=some c13:=⟨h 0 _ rfl,h 1 _ rfl,h 2 _ rfl,h 3 _ rfl,h 4 _ rfl,h 5 _ rfl,h 6 _ rfl,h 7 _ rfl,h 8 _ rfl,h 9 _ rfl,h 10 _ rfl,h 11 _ rfl,h 12 _ rfl,h 13 _ rfl⟩

theorem info_set:(Tryz.prog.info? 76).map (fun i=>(i.zero,i.size))=some (some (.agg (Array.replicate 256 (.bool false))),256):=by kernel_rfl

theorem plus_any (S:List UInt8) (s:ByteArray) (w:World) (hs:s.size≤maxLen) :
  Calls Tryz.prog 46 #[.agg (Lib.setCells S),.string s] w fun e w'=>e=.returned (.agg (Lib.setCells (S ++ s.data.toList)))∧Below w.heap.size w w':=by
 obtain ⟨M,J⟩:=zero_of_info info_set;unfold maxLen at hs;rw [← Lib.setCells_nil] at M;have F:=Lh_ J;clear J;go_enter Tryz.func46,Tryz.ntmps46;go_wp2;go_loopw [8] (fun i wr=>∃ k:Nat,k≤s.size∧i=.int .i64 k∧Blk wr w.heap.size 76 (Lib.setCells (S ++ s.data.toList.take k))∧Blk wr (w.heap.size+1) 76 (Lib.setCells [])∧Below w.heap.size w wr) (fun i _=>s.size - (intOf i).toNat)
 case atStart =>
  refine ⟨0,Nat.zero_le _,rfl,?_,?_,((Below.refl _ _).alloc (Nat.le_refl _) _).alloc (by simp) _⟩
  · simpa using (Blk.new w 76 (Lib.setCells S)).alloc _
  have:=Blk.new (w.alloc (Obj.cells (Lib.setCells S) 76)) 76 (Lib.setCells []);simpa using this
 obtain ⟨k,N,rfl,A,D,I⟩:=hrel;by_cases hlt:k<s.size
 ·
  obtain ⟨x,hx⟩:∃ x:UInt8,s[k]'hlt=x:=⟨_,rfl⟩
  have B:s.data.toList[k]? = some x:=by rw [← hx];exact Lib.data_getElem? s k hlt
  have H:(x.toNat:Int)<256:=by have:=UInt8.toNat_lt x;omega
  have G:=(A.cell x.toNat).trans (Lib.setCells_at _ x);have L:=A.frozen x.toNat;have K:=Lh_ B;clear B;have E:=Lh_ A;clear A;have C:=Lh_ D;clear D;go_wp2;go_roundw
  case rel =>
   refine ⟨k+1,by omega,by go_num,?_,C.out.far (by simp) _,I.setCell (by simp) _⟩;rw [List.take_add_one,K.out,Option.toList,← List.append_assoc,Lib.setCells_snoc];exact E.out.set_ _ _
  simp [intOf];omega
 rw [List.take_of_length_le (by rw [← Lib.size_eq];omega)] at A;have E:=Lh_ A;clear A;have C:=Lh_ D;clear D;go_wp2_with (first
  | (with_reducible refine at_dst 16 ?_;go_must (refine wpList_load_blk rfl 76 _ rfl w.heap.size rfl 76 _ _ E.out Tryz.underlying76 rfl (by rw [Lib.setCells_size];exact F.out) ?_))
  | (with_reducible refine at_store 4 16 ?_;go_must (refine wpList_store_blk rfl 76 _ _ rfl (w.heap.size+1) rfl (Lib.setCells (S ++ s.data.toList)) rfl 76 _ C.out (by rw [Lib.setCells_size];exact F.out) (by rw [Lib.setCells_size,Lib.setCells_size]) (Lib.setCells_one _) ?_)))
 refine bodyPost_ret (v:=.agg (Lib.setCells (S ++ s.data.toList))) ?_ rfl ⟨rfl,below_setRow I (by omega) _⟩;exact results_cell_blk rfl _ _ (w.heap.size+1) 76 _ _ rfl (C.out.setRow_ _) Tryz.underlying76 rfl (by rw [Lib.setCells_size];exact F.out)

theorem has_any (S:List UInt8) (s:ByteArray) (w:World) (hs:s.size≤maxLen) :
  Calls Tryz.prog 45 #[.agg (Lib.setCells S),.string s] w fun e w'=>e=.returned (.bool (inB S s))∧Below w.heap.size w w':=by
 unfold maxLen at hs;go_enter Tryz.func45,Tryz.ntmps45;go_wp2;go_loop [8] (fun i=>∃ k:Nat,k≤s.size∧i=.int .i64 k∧Hid ((s.data.toList.take k).all S.contains=true)) (fun i=>s.size - (intOf i).toNat)
 case atStart=>exact ⟨0,Nat.zero_le _,rfl,rfl⟩
 obtain ⟨k,H,rfl,E⟩:=hrel;have C:=Blk.new w 76 (Lib.setCells S);by_cases hlt:k<s.size
 ·
  obtain ⟨x,hx⟩:∃ x:UInt8,s[k]'hlt=x:=⟨_,rfl⟩
  have B:s.data.toList[k]? = some x:=by rw [← hx];exact Lib.data_getElem? s k hlt
  have D:(x.toNat:Int)<256:=by have:=UInt8.toNat_lt x;omega
  have A:=(C.cell x.toNat).trans (Lib.setCells_at _ x);have G:=Lh_ B;clear B;clear C;obtain ⟨c,hc⟩:∃ c,S.contains x=c:=⟨_,rfl⟩;rw [hc] at A;have F:=Lh_ hc;clear hc;cases c with
  | false =>
   go_wp2;go_ret;refine ⟨ret_bool ?_,(Below.refl _ _).alloc (Nat.le_refl _) _⟩;symm
   rw [inB,List.all_eq_false];exact ⟨x,List.mem_of_getElem? G.out,by rw [F.out];decide⟩
  | true =>
   go_wp2;go_round
   case rel =>
    refine ⟨k+1,by omega,by go_num,?_⟩;show _=true
    rw [List.take_add_one,G.out];simp only [Option.toList,List.all_append,E.out,List.all_cons,List.all_nil,F.out,Bool.and_self]
   simp [intOf];omega
 clear C;go_wp2;go_ret;refine ⟨ret_bool ?_,(Below.refl _ _).alloc (Nat.le_refl _) _⟩;have:=E.out;rw [List.take_of_length_le (by rw [← Lib.size_eq];omega)] at this;exact this.symm

theorem common_any (w:World):Calls Tryz.prog 84 #[] w fun e w'=>e=.returned (.agg (Lib.setCells commonL))∧Below w.heap.size w w':=by
 obtain ⟨T,Q⟩:=zero_of_info info_set;rw [← Lib.setCells_nil] at T;have P:=Lh_ Q;clear Q;go_enter Tryz.func84,Tryz.ntmps84;go_wp2_with fail;have A:Below w.heap.size w (w.alloc (Obj.cells (Lib.setCells []) 76)):=(Below.refl _ _).alloc (Nat.le_refl _) _;have K:Blk (w.alloc (Obj.cells (Lib.setCells []) 76)) w.heap.size 76 (Lib.setCells []):=Blk.new _ _ _;generalize w.alloc (Obj.cells (Lib.setCells []) 76)=w0 at *;refine (plus_any [] _ _ (by decide)).mono ?_;rintro e w1 ⟨rfl,B⟩;have L:=K.below B K.lt;have G:=A.trans (B.mono A.size);clear A B K;go_wp2_with fail;refine (Tryz.strings_ToLower_ascii _ _ (by decide) (fun j b hj=>of_decide_eq_true (List.all_eq_true.1 (by decide:upperL.all (fun b=>decide (b.toNat<128))=true) b (List.mem_of_getElem? hj)))).mono ?_;rintro e w2 ⟨rfl,C⟩;have M:=L.below C L.lt;have H:=G.trans (C.mono G.size);clear C L G;go_wp2_with fail;refine (plus_any _ _ _ (by decide)).mono ?_;rintro e w3 ⟨rfl,D⟩;have N:=M.below D M.lt;have I:=H.trans (D.mono H.size);clear D M H;go_wp2_with fail;refine (plus_any _ _ _ (by decide)).mono ?_;rintro e w4 ⟨rfl,E⟩;have O:=N.below E N.lt;have J:=I.trans (E.mono I.size);clear E N I;go_wp2_with fail;refine (plus_any _ _ _ (by decide)).mono ?_;rintro e w5 ⟨rfl,F⟩;have R:=O.below F O.lt;have S:=J.trans (F.mono J.size);clear F O J;go_wp2_with (with_reducible refine at_store 0 6 ?_;go_must (refine wpList_store_blk rfl 76 _ _ rfl w.heap.size rfl (Lib.setCells commonL) rfl 76 _ R (by rw [Lib.setCells_size];exact P.out) (by rw [Lib.setCells_size,Lib.setCells_size]) (Lib.setCells_one _) ?_));refine bodyPost_ret (v:=.agg (Lib.setCells commonL)) ?_ rfl ⟨rfl,below_setRow S (Nat.le_refl _) _⟩;exact results_cell_blk rfl _ _ w.heap.size 76 _ _ rfl (R.setRow_ _) Tryz.underlying76 rfl (by rw [Lib.setCells_size];exact P.out)

theorem dots_any (s:ByteArray) (w:World):Calls Tryz.prog 44 #[.string s] w fun e w'=>e=.returned (.bool (dotsB s))∧w=w':=by
 go_enter Tryz.func44,Tryz.ntmps44;go_wp2
 ·
  have h:s.toList=[46]:=by assumption
  go_ret;exact ⟨ret_bool (by simp [dotsB,h]),rfl⟩
 go_ret;exact ⟨rfl,rfl⟩

theorem in_any (s t:ByteArray) (T:List UInt8) (w:World) (hs:s.size≤maxLen) (hT:t.data.toList=T):Calls Tryz.prog 114 #[.string s,.string t] w fun e w'=>e=.returned (.bool (inB T s))∧w=w':=by
 subst hT;unfold maxLen at hs;go_enter Tryz.func114,Tryz.ntmps114;go_wp2;go_loop [5] (fun i=>∃ k:Nat,k≤s.size∧i=.int .i64 k∧Hid ((s.data.toList.take k).all t.data.toList.contains=true)) (fun i=>s.size - (intOf i).toNat)
 case atStart=>exact ⟨0,Nat.zero_le _,rfl,rfl⟩
 obtain ⟨k,E,rfl,B⟩:=hrel;by_cases hlt:k<s.size
 ·
  obtain ⟨x,hx⟩:∃ x:UInt8,s[k]'hlt=x:=⟨_,rfl⟩
  have A:s.data.toList[k]? = some x:=by rw [← hx];exact Lib.data_getElem? s k hlt
  have C:=Lh_ A;clear A;go_wp2_with (go_at_call 141;refine (Tryz.strings_IndexByte _ _ _).mono ?_;rintro e w' ⟨rfl,rfl⟩)
  ·
   have D:Lib.indexByte t.data.toList x<0:=by assumption
   go_ret;exact ⟨ret_bool (all_stop C.out (by rw [Lib.contains_iff_indexByte];simp;omega)).symm,rfl⟩
  have D:0≤Lib.indexByte t.data.toList x:=by assumption
  go_round
  case rel=>exact ⟨k+1,by omega,by go_num,all_step B.out C.out (by rw [Lib.contains_iff_indexByte];simpa using D)⟩
  simp [intOf];omega
 go_wp2;go_ret;exact ⟨ret_bool (all_end B.out (by rw [ba_size];omega)).symm,rfl⟩

theorem Printable_any (s:ByteArray) (w:World) (hs:s.size≤maxLen):Calls Tryz.prog 115 #[.string s] w fun e w'=>e=.returned (.bool (printB s))∧w=w':=by
 unfold maxLen at hs;go_enter Tryz.func115,Tryz.ntmps115;go_wp2;go_loop [3] (fun i=>∃ k:Nat,k≤s.size∧i=.int .i64 k∧Hid ((s.data.toList.take k).all printP=true)) (fun i=>s.size - (intOf i).toNat)
 case atStart=>exact ⟨0,Nat.zero_le _,rfl,rfl⟩
 obtain ⟨k,E,rfl,C⟩:=hrel;by_cases hlt:k<s.size
 ·
  obtain ⟨x,hx⟩:∃ x:UInt8,s[k]'hlt=x:=⟨_,rfl⟩
  have A:s.data.toList[k]? = some x:=by rw [← hx];exact Lib.data_getElem? s k hlt
  have B:=Lh_ A;clear A;go_wp2
  ·
   go_ret
   exact ⟨ret_bool (all_stop B.out (by simp [printP];omega)).symm,rfl⟩
  ·
   have D:(32:Int)≤(x.toNat:Int)∧(x.toNat:Int)≤126:=by assumption
   go_round
   case rel=>exact ⟨k+1,by omega,by go_num,all_step C.out B.out (by simp [printP];omega)⟩
   simp [intOf];omega
  go_ret;exact ⟨ret_bool (all_stop B.out (by simp [printP];omega)).symm,rfl⟩
 go_wp2;go_ret;exact ⟨ret_bool (all_end C.out (by rw [ba_size];omega)).symm,rfl⟩

theorem Text_any (s:ByteArray) (w:World) (hs:s.size≤maxLen):Calls Tryz.prog 112 #[.string s] w fun e w'=>e=.returned (.bool (textB s))∧w=w':=by
 unfold maxLen at hs;go_enter Tryz.func112,Tryz.ntmps112;go_wp2;go_loop [6] (fun i=>∃ k:Nat,k≤s.size∧i=.int .i64 k∧Hid ((s.data.toList.take k).all printP=true)) (fun i=>s.size - (intOf i).toNat)
 case atStart=>exact ⟨0,Nat.zero_le _,rfl,rfl⟩
 obtain ⟨k,E,rfl,C⟩:=hrel;by_cases hlt:k<s.size
 ·
  obtain ⟨x,hx⟩:∃ x:UInt8,s[k]'hlt=x:=⟨_,rfl⟩
  have A:s.data.toList[k]? = some x:=by rw [← hx];exact Lib.data_getElem? s k hlt
  have B:=Lh_ A;clear A;go_wp2
  ·
   go_ret
   exact ⟨ret_bool (textB_no (all_stop B.out (by simp [printP];omega))),rfl⟩
  ·
   have D:(32:Int)≤(x.toNat:Int)∧(x.toNat:Int)≤126:=by assumption
   go_round
   case rel=>exact ⟨k+1,by omega,by go_num,all_step C.out B.out (by simp [printP];omega)⟩
   simp [intOf];omega
  go_ret;exact ⟨ret_bool (textB_no (all_stop B.out (by simp [printP];omega))),rfl⟩
 go_wp2;go_ret;exact ⟨ret_bool (textB_yes (all_end C.out (by rw [ba_size];omega))),rfl⟩

theorem RText_any (s:ByteArray) (w:World) (hs:s.size≤maxLen):Calls Tryz.prog 63 #[.string s] w fun e w'=>e=.returned (.bool (textB s))∧w=w':=by
 go_enter Tryz.func63,Tryz.ntmps63;go_wp2_with (go_at_call 115;refine (Printable_any _ _ hs).mono ?_;rintro e w' ⟨rfl,rfl⟩)
 ·
  have h:printB s=true:=by assumption
  go_ret;exact ⟨ret_bool (textB_yes h),rfl⟩
 have h:¬ printB s=true:=by assumption
 go_ret;exact ⟨ret_bool (textB_no (Bool.eq_false_iff.2 h)),rfl⟩


theorem Valid_any (s:ByteArray) (w:World) (hs:s.size≤maxLen):Calls Tryz.prog 78 #[.string s] w fun e w'=>e=.returned (.bool (validB s))∧Below w.heap.size w w':=by
 go_enter Tryz.func78,Tryz.ntmps78;go_wp2_with (first
  | (go_at_call 44;go_must (refine (dots_any _ _).mono ?_);rintro e w' ⟨rfl,rfl⟩)
  | (go_at_call 84;go_must (refine (common_any _).mono ?_);rintro e w1 ⟨rfl,A⟩)
  | (go_at_call 46;go_must (refine (plus_any _ _ _ (by decide)).mono ?_);rintro e w2 ⟨rfl,B⟩)
  | (go_at_call 45;go_must (refine (has_any _ _ _ hs).mono ?_);rintro e w3 ⟨rfl,C⟩))
 ·
  go_ret
  exact ⟨ret_bool (by simp [validB, *]),Below.refl _ _⟩
 ·
  go_ret
  exact ⟨ret_bool (by simp [validB, *]),Below.refl _ _⟩
 ·
  go_ret
  refine ⟨ret_bool (by simp [validB,nameL, *]),?_⟩;have D:=A.trans (B.mono A.size);exact D.trans (C.mono D.size)
 go_ret;exact ⟨ret_bool (by simp [validB, *];omega),Below.refl _ _⟩

theorem RValid_any (s:ByteArray) (w:World) (hs:s.size≤maxLen):Calls Tryz.prog 64 #[.string s] w fun e w'=>e=.returned (.bool (validB s))∧w=w':=by
 go_enter Tryz.func64,Tryz.ntmps64;go_wp2_with (go_at_call 114;go_must (refine (in_any _ _ nameL _ hs rfl).mono ?_);rintro e w' ⟨rfl,rfl⟩);all_goals (go_ret;exact ⟨ret_bool (by first | (simp [validB,dotsB, *];done) | (simp [validB,dotsB, *];omega) | simp [validB,dotsB,Bool.and_assoc, *]),rfl⟩)

theorem RKey_any (s:ByteArray) (w:World) (hs:s.size≤maxLen):Calls Tryz.prog 60 #[.string s] w fun e w'=>e=.returned (.bool (keyB s))∧w=w':=by
 by_cases h0:s.toList=[]
 ·
  go_enter Tryz.func60,Tryz.ntmps60
  go_wp2_with fail;go_ret;exact ⟨ret_bool (by simp [keyB,h0]),rfl⟩
 have A:0<s.size:=by
  rcases Nat.eq_zero_or_pos s.size with h | h
  ·
   exfalso
   apply h0
   rw [Lib.toList_data];exact List.eq_nil_of_length_eq_zero (by rw [ba_size];exact h)
  exact h
 have h0':(!s.toList.isEmpty)=true:=by simpa using h0
 by_cases h1:s.size≤32
 ·
  have B:(s.extract 0 1).size≤maxLen:=by rw [ByteArray.size_extract];unfold maxLen;omega
  go_enter Tryz.func60,Tryz.ntmps60;go_wp2_with fail;refine (in_any _ _ keyL _ hs rfl).mono ?_;rintro e w' ⟨rfl,rfl⟩;go_wp2_with fail
  ·
   refine (in_any _ _ upperL _ B rfl).mono ?_;rintro e w' ⟨rfl,rfl⟩
   go_wp2;go_ret;exact ⟨ret_bool (by simp [keyB, *]),rfl⟩
  go_ret;exact ⟨ret_bool (by simp [keyB, *]),rfl⟩
 go_enter Tryz.func60,Tryz.ntmps60;go_wp2_with fail;go_ret;exact ⟨ret_bool (by simp [keyB, *];omega),rfl⟩

theorem indexByte_contains (l:List UInt8) (c:UInt8):decide (0≤Lib.indexByte l c)=l.contains c:=(Lib.contains_iff_indexByte l c).symm

theorem RInterface_any (s:ByteArray) (w:World) (hs:s.size≤maxLen):Calls Tryz.prog 66 #[.string s] w fun e w'=>e=.returned (.bool (ifaceB s))∧w=w':=by
 go_enter Tryz.func66,Tryz.ntmps66;go_wp2_with fail;refine (RValid_any _ _ hs).mono ?_;rintro e w' ⟨rfl,rfl⟩;cases hv:validB s with
 | false =>
  have A:=Lh_ hv;clear hv;go_wp2;go_ret;exact ⟨ret_bool (by rw [ifaceB,A.out];rfl),rfl⟩
 | true =>
  have A:=Lh_ hv;clear hv;by_cases h1:s.size≤15
  ·
   go_wp2_with fail
   refine (Tryz.strings_Contains_one _ 58 _).mono ?_;rintro e w' ⟨rfl,rfl⟩;rw [indexByte_contains];cases h2:s.data.toList.contains 58 with
   | true =>
    have B:=Lh_ h2;clear h2;go_wp2;go_ret;exact ⟨ret_bool (by rw [ifaceB,A.out,B.out];simp),rfl⟩
   | false =>
    have B:=Lh_ h2;clear h2;go_wp2_with fail;refine (Tryz.strings_Contains_one _ 33 _).mono ?_;rintro e w' ⟨rfl,rfl⟩;rw [indexByte_contains];cases h3:s.data.toList.contains 33 with
    | true =>
     have C:=Lh_ h3;clear h3;go_wp2;go_ret;exact ⟨ret_bool (by rw [ifaceB,A.out,B.out,C.out];simp),rfl⟩
    | false =>
     have C:=Lh_ h3;clear h3;go_wp2;go_ret;exact ⟨ret_bool (by rw [ifaceB,A.out,B.out,C.out];simp;omega),rfl⟩
  go_wp2;go_ret;exact ⟨ret_bool (by rw [ifaceB,A.out];simp;omega),rfl⟩

theorem Interface_any (s:ByteArray) (w:World) (hs:s.size≤maxLen):Calls Tryz.prog 76 #[.string s] w fun e w'=>e=.returned (.bool (ifaceB s))∧Below w.heap.size w w':=by
 go_enter Tryz.func76,Tryz.ntmps76;go_wp2_with fail;refine (Valid_any _ _ hs).mono ?_;rintro e w1 ⟨rfl,A⟩;cases hv:validB s with
 | false =>
  have B:=Lh_ hv;clear hv;go_wp2;go_ret;exact ⟨ret_bool (by rw [ifaceB,B.out];rfl),A⟩
 | true =>
  have B:=Lh_ hv;clear hv;by_cases h1:s.size≤15
  ·
   go_wp2_with fail
   refine (Tryz.strings_ContainsAny_laid _ _ _ (by omega) (by decide) (fun j b hj=>name_ascii B.out j b hj) (fun j b hj=>of_decide_eq_true (List.all_eq_true.1 (by decide:[58,33].all (fun b:UInt8=>decide (b.toNat<128))=true) b (List.mem_of_getElem? hj)))).mono ?_;rintro e w2 ⟨rfl,C⟩;obtain ⟨c,hc⟩:∃ c,Lib.containsAny s.data.toList (ByteArray.mk #[58,33]).data.toList=c:=⟨_,rfl⟩;rw [hc];have D:=Lh_ hc;clear hc;go_wp2;go_ret;refine ⟨ret_bool ?_,A.trans (C.mono A.size)⟩;rw [ifaceB,B.out,← iface_any,← indexAny_any,← D.out];simp [Lib.containsAny];omega
  go_wp2;go_ret;exact ⟨ret_bool (by rw [ifaceB,B.out];simp;omega),A⟩

theorem RBeneath_any (a b:ByteArray) (w:World) (hs:a.size≤4294967280):Calls Tryz.prog 140 #[.string a,.string b] w fun e w'=>e=.returned (.bool (belowB a b))∧w=w':=by
 go_enter Tryz.func140,Tryz.ntmps140;go_wp2_with (go_at_call 172;go_must (refine (Tryz.strings_HasPrefix _ _ _).mono ?_);rintro e w' ⟨rfl,rfl⟩);go_ret;exact ⟨rfl,rfl⟩

structure PredS (g:FuncId) (caps:Array Value) (w:World) (p:ByteArray→Bool):Prop where
 enters:∀ args w,(callFunc g args).run Tryz.prog w=.ok (.enter g args) w
 gives:∀ (x:ByteArray) (W:World),x.size≤maxLen→Below w.heap.size w W→Calls Tryz.prog g (#[.string x] ++ caps) W fun e W'=>e=.returned (.bool (p x))∧Below W.heap.size W W'
theorem PredS.next {g:FuncId} {caps:Array Value} {w w':World} {p:ByteArray→Bool} (h:PredS g caps w p) (hb:Below w.heap.size w w'):PredS g caps w' p :=
 ⟨h.enters,fun x W hx hW=>h.gives x W hx (hb.trans (hW.mono hb.size))⟩

set_option maxRecDepth 10000 in
theorem IndexFunc_any (A:Option Addr) (c:Nat) (xs:List ByteArray) (g:FuncId) (caps:Array Value) (p:ByteArray→Bool) (w:World) (hx:Sl w w.heap.size A c xs) (hp:PredS g caps w p) :
  Calls Tryz.prog 130 #[.slice A xs.length c,.func (.func g) #[] caps] w fun e w'=>e=.returned (.int .i64 (idxInt p xs))∧Below w.heap.size w w':=by
 have T:=hx.1;have L:=hx.2.1;unfold maxLen at L;have Q:=hp.enters;have N:=Lh_ hp;clear hp;have J:=Lh_ hx;clear hx;go_enter Tryz.func130,Tryz.ntmps130;go_wp2;go_loopw [8] (fun i wr=>∃ k:Nat,k≤xs.length∧i=.int .i64 k∧Hid ((xs.take k).all (fun x=>!p x)=true)∧Below w.heap.size w wr) (fun i _=>xs.length - (intOf i).toNat)
 case atStart=>exact ⟨0,Nat.zero_le _,rfl,rfl,Below.refl _ _⟩
 obtain ⟨k,U,rfl,I,E⟩:=hrel;by_cases hlt:k<xs.length
 ·
  obtain ⟨S,X,rfl,P,M,H⟩:=(J.out.keep E).str hlt
  have D:xs[k]? = some xs[k]:=List.getElem?_eq_getElem hlt;obtain ⟨x,hx⟩:∃ x,xs[k]=x:=⟨_,rfl⟩;rw [hx] at M H D;have O:=Lh_ D;clear D;have K:=Lh_ hx;clear hx;have V:(k:Int)<(xs.length:Int):=by omega
  go_wp2_with fail;have B:=N.out.gives x wr H E;refine Calls.mono (R:=fun e W'=>e=.returned (.bool (p x))∧Below wr.heap.size wr W') ?_ ?_
  · first | exact B | simpa using B
  rintro e w1 ⟨rfl,F⟩;have G:=E.trans (F.mono E.size);clear B F E M;cases hpx:p x with
  | true =>
   have C:=Lh_ hpx;clear hpx;go_wp2;go_ret;exact ⟨ret_int (idxInt_some hlt I.out (by rw [K.out];exact C.out)).symm,G⟩
  | false =>
   have C:=Lh_ hpx;clear hpx;go_wp2;go_roundw
   case rel=>exact ⟨k+1,by omega,by go_num,all_step I.out O.out (by rw [C.out];rfl),G⟩
   simp [intOf];omega
 go_wp2;go_ret;exact ⟨ret_int (idxInt_none (all_end I.out (by omega))).symm,E⟩

theorem ContainsFunc_any (A:Option Addr) (c:Nat) (xs:List ByteArray) (g:FuncId) (caps:Array Value) (p:ByteArray→Bool) (w:World) (hx:Sl w w.heap.size A c xs) (hp:PredS g caps w p) :
  Calls Tryz.prog 85 #[.slice A xs.length c,.func (.func g) #[] caps] w fun e w'=>e=.returned (.bool (xs.any p))∧Below w.heap.size w w':=by
 have D:=Lh_ hp;clear hp;have B:=Lh_ hx;clear hx;go_enter Tryz.func85,Tryz.ntmps85;go_wp2_with fail;refine (IndexFunc_any A c xs g caps p w B.out D.out).mono ?_;rintro e w1 ⟨rfl,C⟩;go_wp2;go_ret;exact ⟨ret_bool (idxInt_any _ _),C⟩

theorem all1_any (g:FuncId) (caps:Array Value) (p:ByteArray→Bool) (w:World) (b:Nat) (hb:b<w.heap.size) (hc:w.cell? ⟨b,0,none⟩=some (.func (.func g) #[] caps)) (hp:PredS g caps w p) :
  PredS 86 #[.pointer (some ⟨b,0,none⟩)] w (fun x=>!p x):=by
 refine ⟨enters_of Tryz.func86 (by kernel_rfl) rfl,fun x W hx hW=>?_⟩;have C:=(hW.cell (p:=⟨b,0,none⟩) hb).trans hc;have E:=hp.enters;have D:=Lh_ hp;clear hp hc;go_enter Tryz.func86,Tryz.ntmps86;go_wp2_with fail;have A:=D.out.gives x W hx hW;refine Calls.mono (R:=fun e W'=>e=.returned (.bool (p x))∧Below W.heap.size W W') ?_ ?_
 · first | exact A | simpa using A
 rintro e w1 ⟨rfl,B⟩;clear A;go_wp2;go_ret;exact ⟨rfl,B⟩

theorem all_any (A:Option Addr) (c:Nat) (xs:List ByteArray) (g:FuncId) (caps:Array Value) (p:ByteArray→Bool) (w:World) (hx:Sl w w.heap.size A c xs) (hp:PredS g caps w p) :
  Calls Tryz.prog 41 #[.slice A xs.length c,.func (.func g) #[] caps] w fun e w'=>e=.returned (.bool (xs.all p))∧Below w.heap.size w w':=by
 have H:=Lh_ hp;clear hp;have F:=Lh_ hx;clear hx;go_enter Tryz.func41,Tryz.ntmps41;go_wp2_with fail;have B:Below w.heap.size w (w.alloc (Obj.cells #[Value.func (Fn.func g) #[] caps] 40)):=(Below.refl _ _).alloc (Nat.le_refl _) _;have E:(w.alloc (Obj.cells #[Value.func (Fn.func g) #[] caps] 40)).heap.size=w.heap.size+1:=by simp
 have D:=all1_any g caps p (w.alloc (Obj.cells #[Value.func (Fn.func g) #[] caps] 40)) w.heap.size (by rw [E];omega) (by rw [World.cell?_alloc_at _ _ _ _ rfl];rfl) (H.out.next B);refine (ContainsFunc_any A c xs _ _ _ _ (F.out.next (Nat.le_refl _) B) D).mono ?_;rintro e w1 ⟨rfl,C⟩;have G:=B.trans (C.mono B.size);clear B E D C;obtain ⟨r,hr⟩:∃ r,xs.any (fun x=>!p x)=r:=⟨_,rfl⟩;rw [hr];have I:=Lh_ hr;clear hr;go_wp2;go_ret;refine ⟨ret_bool ?_,G⟩;rw [← I.out,List.not_any_eq_all_not];simp

def Ok (w:World):Prop:=∃ m,w.cell? ⟨0,0,none⟩=some (.int .i64 m)
theorem Ok.next {w w':World} (h:Ok w) (hb:Below w.heap.size w w'):Ok w':=by
 obtain ⟨m,A⟩:=h;exact ⟨m,(hb.cell (p:=⟨0,0,none⟩) (block_lt_of_cell A)).trans A⟩

theorem SplitSlash_any (s:ByteArray) (w:World) (hs:s.size<4294967281) (hok:Ok w):Calls Tryz.prog 42 #[.string s,.string ⟨#[47]⟩] w fun e w' =>
  ∃ A c,e=.returned (.slice A (piecesL s.data.toList).length c)∧Sl w' w'.heap.size A c (piecesL s.data.toList)∧Below w.heap.size w w':=by
 obtain ⟨m,E⟩:=hok;refine (Tryz.strings_Split s ⟨#[47]⟩ m w hs E (by decide)).mono ?_;rintro e w' ⟨rfl,rfl⟩;have C:=pieces_length s ⟨#[47]⟩ rfl;have B:=splitOn_count 47 s.data.toList;have D:Below w.heap.size w (w.alloc (.cells ((Lib.splitB ⟨#[47]⟩ 0 (Lib.countB s ⟨#[47]⟩) s).map Value.string).toArray 9)):=(Below.refl _ _).alloc (Nat.le_refl _) _;refine ⟨_,(piecesL s.data.toList).length,by rw [C],?_,D⟩;refine Sl.ofStrs (Nat.le_refl _) ?_ (by simp) (fun x hx=>?_) (fun i x hx=>?_)
 · unfold piecesL maxLen;rw [List.length_map];rw [ba_size] at B;omega
 · have:=pieces_sizes hx;rw [ba_size] at this;unfold maxLen;omega
 rw [splitB_eq s ⟨#[47]⟩ rfl,World.cell?_alloc_at _ _ _ _ rfl];simp [hx]


theorem stringsCompare_any (a b:ByteArray) (w:World):Calls Tryz.prog 139 #[.string a,.string b] w fun e w'=>e=.returned (.int .i64 (cmpB a b))∧w'=w:=Tryz.strings_Compare a b w

theorem RCompare_any (A B:Option Addr) (c d:Nat) (xs ys:List ByteArray) (w:World) (b1 b2:Nat) (hx:Sl w b1 A c xs) (hy:Sl w b2 B d ys) :
  Calls Tryz.prog 97 #[.slice A xs.length c,.slice B ys.length d] w fun e w'=>e=.returned (.int .i64 (cmpL xs ys))∧∃ n,w'=w.drewN n:=by
 have O:=hx.1;have G:=hx.2.1;have P:=hy.1;have H:=hy.2.1;unfold maxLen at G H;go_enter Tryz.func97,Tryz.ntmps97;go_wp2;go_loopw [5] (fun i wr=>∃ k n:Nat,k≤xs.length∧k≤ys.length∧i=.int .i64 k∧Hid (xs.take k=ys.take k)∧wr=w.drewN n) (fun i _=>xs.length - (intOf i).toNat)
 case atStart=>exact ⟨0,0,Nat.zero_le _,Nat.zero_le _,rfl,rfl,rfl⟩
 obtain ⟨k,n,hk,hk',rfl,E,rfl⟩:=hrel;by_cases hlx:k<xs.length
 ·
  have Q:(k:Int)<(xs.length:Int):=by omega
  by_cases hly:k<ys.length
  ·
   obtain ⟨K,S,rfl,_,M,_⟩:=hx.str hlx
   obtain ⟨L,T,rfl,_,N,_⟩:=hy.str hly;have R:(k:Int)<(ys.length:Int):=by omega
   go_wp2;go_quiet (fail)
   go_wp2
   ·
    have D:=ba_ne (by assumption)
    have C:=cmpL_diff E.out hlx hly D;have I:=Lh_ C;clear C D;go_quiet ((go_at_call 139;exact quiet_add_same (stringsCompare_any _ _ _)))
    go_wp2;go_ret;exact ⟨ret_int I.out.symm,by simp only [World.drewN_drewN];exact ⟨_,rfl⟩⟩
   have D:=ba_eq (by assumption);have J:=Lh_ D;clear D;go_roundw
   case rel=>exact ⟨k+1,_,by omega,by omega,by go_num,take_succ_iff hlx hly E.out J.out,rfl⟩
   simp [intOf];omega
  have F:ys.length<xs.length:=by omega
  go_wp2;go_ret;exact ⟨ret_int (cmpL_more E.out (by omega) F).symm,_,rfl⟩
 go_wp2
 ·
  have F:xs.length<ys.length:=by assumption
  go_ret;exact ⟨ret_int (cmpL_less E.out (by omega) F).symm,_,rfl⟩
 have F:¬ xs.length<ys.length:=by assumption
 go_ret;exact ⟨ret_int (cmpL_same (take_all E.out (by omega) (by omega))).symm,_,rfl⟩


theorem JoinSlash_any (A:Option Addr) (c:Nat) (xs:List ByteArray) (w:World) (hx:Sl w w.heap.size A c xs) (hlen:(joinB xs).size≤140737488355328) (hn:xs.length≤140737488355328) :
  Calls Tryz.prog 47 #[.slice A xs.length c,.string ⟨#[47]⟩] w fun e w'=>e=.returned (.string (joinB xs))∧Below w.heap.size w w':=by
 rcases Nat.eq_zero_or_pos xs.length with h0 | h0
 ·
  have B:xs=[]:=List.eq_nil_of_length_eq_zero h0
  subst B;exact (Tryz.strings_Join_none A c ⟨#[47]⟩ w).mono fun e w' ⟨he,hw⟩=>⟨he,by rw [hw];exact Below.refl _ _⟩
 obtain ⟨b,o,rfl,D,C⟩:=hx.strs h0;exact Tryz.strings_Join b o c xs ⟨#[47]⟩ w C D hn hx.1 hlen

theorem RJoin_any (A:Option Addr) (c:Nat) (xs:List ByteArray) (w:World) (hx:Sl w w.heap.size A c xs) (hlen:(joinB xs).size≤4294967280) (hn:xs.length≤4294967280) :
  Calls Tryz.prog 93 #[.slice A xs.length c] w fun e w'=>e=.returned (.string (toB (47 :: (joinB xs).data.toList)))∧Below w.heap.size w w':=by
 go_enter Tryz.func93,Tryz.ntmps93;go_wp2_with fail;refine (JoinSlash_any A c xs w hx (by omega) (by omega)).mono ?_;rintro e w1 ⟨rfl,C⟩;obtain ⟨j,hj⟩:∃ j,joinB xs=j:=⟨_,rfl⟩;rw [hj] at hlen ⊢;clear hx;have B:=Lh_ hj;clear hj;go_wp2;go_ret;exact ⟨ret_str (by rw [B.out];exact slash_app j),C⟩


theorem parts_any (w:World):Calls Tryz.prog 40 #[] w fun e w'=>e=.returned (.agg (Lib.setCells partL))∧Below w.heap.size w w':=by
 obtain ⟨K,H⟩:=zero_of_info info_set;rw [← Lib.setCells_nil] at K;have G:=Lh_ H;clear H;go_enter Tryz.func40,Tryz.ntmps40;go_wp2_with fail;have A:Below w.heap.size w (w.alloc (Obj.cells (Lib.setCells []) 76)):=(Below.refl _ _).alloc (Nat.le_refl _) _;have E:Blk (w.alloc (Obj.cells (Lib.setCells []) 76)) w.heap.size 76 (Lib.setCells []):=Blk.new _ _ _;generalize w.alloc (Obj.cells (Lib.setCells []) 76)=w0 at *;refine (common_any _).mono ?_;rintro e w1 ⟨rfl,B⟩;have F:=E.below B E.lt;have D:=A.trans (B.mono A.size);clear A B E;go_wp2_with fail;refine (plus_any _ _ _ (by decide)).mono ?_;rintro e w2 ⟨rfl,C⟩;have I:=F.below C F.lt;have J:=D.trans (C.mono D.size);clear C F D;go_wp2_with (with_reducible refine at_store 0 2 ?_;go_must (refine wpList_store_blk rfl 76 _ _ rfl w.heap.size rfl (Lib.setCells partL) rfl 76 _ I (by rw [Lib.setCells_size];exact G.out) (by rw [Lib.setCells_size,Lib.setCells_size]) (Lib.setCells_one _) ?_));refine bodyPost_ret (v:=.agg (Lib.setCells partL)) ?_ rfl ⟨rfl,below_setRow J (Nat.le_refl _) _⟩;exact results_cell_blk rfl _ _ w.heap.size 76 _ _ rfl (I.setRow_ _) Tryz.underlying76 rfl (by rw [Lib.setCells_size];exact G.out)

theorem link1_any (w:World) (b:Nat) (hk:Blk w b 76 (Lib.setCells partL)):PredS 43 #[.pointer (some ⟨b,0,none⟩)] w compB:=by
 obtain ⟨_,B⟩:=zero_of_info info_set;have C:=Lh_ B;clear B;refine ⟨enters_of Tryz.func43 (by kernel_rfl) rfl,fun x W hx hW=>?_⟩;have D:=Lh_ (hk.below hW hk.lt);clear hk hW;by_cases h0:x.toList=[]
 ·
  go_enter Tryz.func43,Tryz.ntmps43
  go_wp2_with fail;go_ret;exact ⟨ret_bool (by simp [compB,h0]),Below.refl _ _⟩
 have h0':(x.toList.isEmpty)=false:=by simpa using h0
 go_enter Tryz.func43,Tryz.ntmps43;go_wp2_with fail;refine (dots_any _ _).mono ?_;rintro e w' ⟨rfl,rfl⟩;cases hd:dotsB x with
 | true =>
  go_wp2_with fail;go_ret;exact ⟨ret_bool (by simp [compB,hd]),Below.refl _ _⟩
 | false =>
  go_wp2_with (first
   | (with_reducible refine at_dst 12 ?_;go_must (refine wpList_load_blk_w (by simp [Region.wanted,yielded]) 76 _ rfl b rfl 76 _ _ D.out Tryz.underlying76 rfl (by rw [Lib.setCells_size];exact C.out) ?_))
   | (go_at_call 45;go_must (refine (has_any _ _ _ hx).mono ?_);rintro e w1 ⟨rfl,A⟩))
  go_ret;exact ⟨ret_bool (by simp [compB,hd,h0']),A⟩

theorem Link_any (s:ByteArray) (w:World) (hs:s.size<4294967281) (hok:Ok w):Calls Tryz.prog 17 #[.string s] w fun e w'=>e=.returned (.bool (linkB s))∧Below w.heap.size w w':=by
 obtain ⟨J,P⟩:=zero_of_info info_set;rw [← Lib.setCells_nil] at J;have O:=Lh_ P;clear P;have R:=Lh_ hs;clear hs;by_cases h256:s.size≤256
 ·
  have T:decide ((s.size:Int)≤256)=true:=by simp;omega
  have C:=Lh_ h256;clear h256;go_enter Tryz.func17,Tryz.ntmps17;go_wp2_with fail;refine (parts_any _).mono ?_;rintro e w1 ⟨rfl,B⟩;have F:Blk (w1.alloc (Obj.cells (Lib.setCells []) 76)) w1.heap.size 76 (Lib.setCells []):=Blk.new _ _ _;go_wp2_with (with_reducible refine at_store 3 4 ?_;go_must (refine wpList_store_blk rfl 76 _ _ rfl w1.heap.size rfl (Lib.setCells partL) rfl 76 _ F (by rw [Lib.setCells_size];exact O.out) (by rw [Lib.setCells_size,Lib.setCells_size]) (Lib.setCells_one _) ?_));have D:Below w.heap.size w ((w1.alloc (Obj.cells (Lib.setCells []) 76)).setRow w1.heap.size (Lib.setCells partL)):=below_setRow (B.alloc B.size _) B.size _;have N:Blk ((w1.alloc (Obj.cells (Lib.setCells []) 76)).setRow w1.heap.size (Lib.setCells partL)) w1.heap.size 76 (Lib.setCells partL):=(Blk.new _ _ _).setRow_ _;generalize (w1.alloc (Obj.cells (Lib.setCells []) 76)).setRow w1.heap.size (Lib.setCells partL)=w2 at *;generalize w1.heap.size=g at *;clear B;go_wp2_with fail;refine (SplitSlash_any s w2 R.out (hok.next D)).mono ?_;rintro e w3 ⟨A,c,rfl,I,E⟩;have H:=N.below E N.lt;have G:=D.trans (E.mono D.size);have K:=Lh_ I;have Q:=Lh_ H;clear D E N H I;go_wp2_with fail;refine (all_any A c _ _ _ _ w3 K.out (link1_any w3 g Q.out)).mono ?_;rintro e w4 ⟨rfl,L⟩;have M:=G.trans (L.mono G.size);obtain ⟨z,J⟩:∃ z,(piecesL s.data.toList).all compB=z:=⟨_,rfl⟩;rw [J];have S:=Lh_ J;clear J;go_wp2;go_ret;exact ⟨ret_bool (by have:=C.out;rw [linkB,S.out];simp;omega),M⟩
 have T:decide ((s.size:Int)≤256)=false:=by simp;omega
 have C:=Lh_ h256;clear h256;go_enter Tryz.func17,Tryz.ntmps17;go_wp2_with fail;refine (parts_any _).mono ?_;rintro e w1 ⟨rfl,B⟩;have F:Blk (w1.alloc (Obj.cells (Lib.setCells []) 76)) w1.heap.size 76 (Lib.setCells []):=Blk.new _ _ _;go_wp2_with (with_reducible refine at_store 3 4 ?_;go_must (refine wpList_store_blk rfl 76 _ _ rfl w1.heap.size rfl (Lib.setCells partL) rfl 76 _ F (by rw [Lib.setCells_size];exact O.out) (by rw [Lib.setCells_size,Lib.setCells_size]) (Lib.setCells_one _) ?_));go_ret;exact ⟨ret_bool (by have:=C.out;rw [linkB];simp;omega),below_setRow (B.alloc B.size _) B.size _⟩

theorem RLink_any (s:ByteArray) (w:World) (hs:s.size<4294967281) (hok:Ok w):Calls Tryz.prog 65 #[.string s] w fun e w'=>e=.returned (.bool (linkB s))∧Below w.heap.size w w':=by
  have N:=Lh_ hs;clear hs;go_enter Tryz.func65,Tryz.ntmps65;go_wp2_with fail;refine (SplitSlash_any s w N.out hok).mono ?_;rintro e w1 ⟨A,c,rfl,B,L⟩;obtain ⟨xs,hxs⟩:∃ xs,piecesL s.data.toList=xs:=⟨_,rfl⟩;rw [hxs] at B ⊢;have F:=Lh_ hxs;clear hxs;have V:=B.1;have I:=B.2.1;unfold maxLen at I;have H:=Lh_ B;clear B;go_wp2_with fail;go_loop [4] (fun i=>∃ k:Nat,k≤xs.length∧i=.int .i64 k∧Hid ((xs.take k).all compB=true)) (fun i=>xs.length - (intOf i).toNat)
  case atStart=>exact ⟨0,Nat.zero_le _,rfl,rfl⟩
  obtain ⟨k,W,rfl,J⟩:=hrel;by_cases hlt:k<xs.length
  · obtain ⟨S,Y,rfl,_,O,D⟩:=H.out.str hlt
    have E:xs[k]? = some xs[k]:=List.getElem?_eq_getElem hlt;obtain ⟨x,hx⟩:∃ x,xs[k]=x:=⟨_,rfl⟩;rw [hx] at O D E;have K:=Lh_ E;clear E hx;have X:(k:Int)<(xs.length:Int):=by omega
    cases hv:compB x with
    | true =>
      have T:x.toList.isEmpty=false:=by
        unfold compB at hv;simp only [Bool.and_eq_true] at hv;simpa using hv.1
      have P:(x.toList == [46])=false∧(x.toList == [46,46])=false:=by
        unfold compB dotsB at hv;simp only [Bool.and_eq_true,Bool.not_eq_true',Bool.or_eq_false_iff] at hv;exact hv.2.1
      have U:inB partL x=true:=by
        unfold compB at hv;simp only [Bool.and_eq_true] at hv;exact hv.2.2
      obtain ⟨Q,R⟩:=P;have G:=Lh_ hv;clear hv;go_wp2_with (go_at_call 114;go_must (refine (in_any _ _ partL _ D rfl).mono ?_);rintro e w' ⟨rfl,rfl⟩);go_round
      case rel=>exact ⟨k+1,by omega,by go_num,all_step J.out K.out G.out⟩
      simp [intOf];omega
    | false =>
      have G:=Lh_ hv;clear hv;have C:false=linkB s:=by rw [linkB,F.out,all_stop K.out G.out];simp
      have M:=Lh_ C;clear C;go_wp2_with (go_at_call 114;go_must (refine (in_any _ _ partL _ D rfl).mono ?_);rintro e w' ⟨rfl,rfl⟩);all_goals first
        | (go_ret;exact ⟨ret_bool M.out,L⟩)
        | (exfalso
           have:=G.out;simp_all [compB,dotsB])
  go_wp2;go_ret;exact ⟨ret_bool (by rw [linkB,F.out,all_end J.out (by omega)];simp),L⟩

def cleanP (b:UInt8):UInt8:=if (partL ++ [47]).contains b then b else 95
theorem cleanP_good {b:UInt8} (h:(partL ++ [47]).contains b=true):cleanP b=b:=by rw [cleanP,if_pos h]
theorem cleanP_bad {b:UInt8} (h:(partL ++ [47]).contains b=false):cleanP b=95:=by rw [cleanP,h];rfl
def cleanK (l:List UInt8) (k:Nat):List UInt8:=(l.take k).map cleanP ++ l.drop k
theorem cleanK_length (l:List UInt8) (k:Nat) (hk:k≤l.length):(cleanK l k).length=l.length:=by
 simp [cleanK];omega
theorem cleanK_zero (l:List UInt8):cleanK l 0=l:=by simp [cleanK]
theorem cleanK_all (l:List UInt8) {k:Nat} (hk:l.length≤k):cleanK l k=l.map cleanP:=by
 rw [cleanK,List.take_of_length_le hk,List.drop_eq_nil_of_le hk,List.append_nil]
theorem cleanK_at {l:List UInt8} {k:Nat} {b:UInt8} (h:l[k]? = some b):(cleanK l k)[k]? = some b:=by
 have A:=(List.getElem?_eq_some_iff.1 h).1;rw [cleanK,List.getElem?_append_right (by simp;omega)];simp only [List.length_map,List.length_take];rw [Nat.min_eq_left (by omega),Nat.sub_self,List.getElem?_drop];exact h
theorem cleanK_succ {l:List UInt8} {k:Nat} {b:UInt8} (h:l[k]? = some b):cleanK l (k+1)=(cleanK l k).set k (cleanP b):=by
 have B:=(List.getElem?_eq_some_iff.1 h).1;have A:=(List.getElem?_eq_some_iff.1 h).2;have C:cleanK l k=((l.take k).map cleanP) ++ b :: l.drop (k+1):=by
  rw [cleanK,List.drop_eq_getElem_cons B,A]
 rw [C,List.set_append_right _ _ (by simp;omega)];simp only [List.length_map,List.length_take];rw [Nat.min_eq_left (by omega),Nat.sub_self,List.set_cons_zero,cleanK,List.take_succ_eq_append_getElem B,A,List.map_append,List.append_assoc];rfl
theorem cleanK_same {l:List UInt8} {k:Nat} {b:UInt8} (h:l[k]? = some b) (hg:cleanP b=b):cleanK l (k+1)=cleanK l k:=by
 rw [cleanK_succ h,hg];have:=cleanK_at h;apply List.ext_getElem?
 intro i;rw [List.getElem?_set];split
 ·
  rename_i he
  subst he;have A:=(List.getElem?_eq_some_iff.1 this).1;rw [if_pos A,this]
 rfl
def keepB (x:ByteArray):Bool:=!x.toList.isEmpty && !(x.toList == [46])
def fsOf (s:ByteArray):List ByteArray:=(piecesL (s.data.toList.map cleanP)).filter keepB
def cleanOf (s:ByteArray):Option ByteArray:=if linkB (joinB (fsOf s)) then some (joinB (fsOf s)) else none

def tot (xs:List (List UInt8)):Nat:=(xs.map fun x=>x.length+1).sum
theorem tot_splitOn (c:UInt8):∀ l:List UInt8,tot (splitOn c l)=l.length+1
 | []=>rfl
 | b :: l=>by
  have ih:=tot_splitOn c l;unfold splitOn;split
  · simp [tot] at ih ⊢;omega
  cases hs:splitOn c l with
  | nil=>exact absurd hs (splitOn_ne c l)
  | cons y r=>rw [hs] at ih;simp [tot] at ih ⊢;omega
theorem tot_filter (p:List UInt8→Bool):∀ xs:List (List UInt8),tot (xs.filter p)≤tot xs
 | []=>Nat.le_refl _
 | x :: xs=>by
  have ih:=tot_filter p xs;rw [List.filter_cons];split <;> (simp [tot] at ih ⊢;omega)
theorem join_length (c:UInt8):∀ xs:List (List UInt8),xs≠[]→(Lib.join xs [c]).length+1=tot xs
 | [],h=>absurd rfl h
 | x :: r,_=>by
  rw [Lib.join_cons];have:∀ r:List (List UInt8),(Lib.joinTail [c] r).length=tot r:=by
   intro r;induction r with
   | nil=>rfl
   | cons y r ih =>
    have e:Lib.joinTail [c] (y :: r)=(c :: y) ++ Lib.joinTail [c] r:=by simp [Lib.joinTail]
    rw [e,List.length_append,ih];simp [tot]
  rw [List.length_append,this];simp [tot];omega
theorem joinB_filter_size (l:List UInt8) (p:ByteArray→Bool):(joinB ((piecesL l).filter p)).size≤l.length:=by
 unfold joinB;rw [toB_size];have e:((piecesL l).filter p).map (·.data.toList)=(splitOn 47 l).filter (fun x=>p (toB x)):=by
  unfold piecesL;generalize splitOn 47 l=ys;induction ys with
  | nil=>rfl
  | cons y ys ih =>
   simp only [List.map_cons,List.filter_cons];split
   · rw [List.map_cons,ih];rfl
   exact ih
 rw [e];by_cases hn:(splitOn 47 l).filter (fun x=>p (toB x))=[]
 · rw [hn];simp [Lib.join_nil]
 have A:=join_length 47 _ hn;have B:=tot_filter (fun x=>p (toB x)) (splitOn 47 l);have C:=tot_splitOn 47 l;omega
theorem fsOf_join_size (s:ByteArray):(joinB (fsOf s)).size≤s.size:=by
 have:=joinB_filter_size (s.data.toList.map cleanP) keepB;rw [List.length_map,ba_size] at this;exact this
theorem fsOf_sizes {s x:ByteArray} (h:x ∈ fsOf s):x.size≤s.size:=by
 have:=pieces_sizes (List.mem_filter.1 h).1;rwa [List.length_map,ba_size] at this
theorem fsOf_length (s:ByteArray):(fsOf s).length≤s.size+1:=by
 have A:=List.length_filter_le keepB (piecesL (s.data.toList.map cleanP));have B:(piecesL (s.data.toList.map cleanP)).length≤s.size+1:=by
  unfold piecesL;rw [List.length_map];have:=splitOn_count 47 (s.data.toList.map cleanP);rwa [List.length_map,ba_size] at this
 exact Nat.le_trans A B
def nodeV (d:Dev):ByteArray:=(nodeD d).getD ⟨#[]⟩
theorem nodeD_yes {d:Dev} (h:d.kind=2∨d.kind=3):nodeD d=some (nodeS d.orig):=by unfold nodeD;rw [if_pos h]
theorem nodeD_no {d:Dev} (h:¬ (d.kind=2∨d.kind=3)):nodeD d=none:=by unfold nodeD;rw [if_neg h]

theorem Replace_any (s:ByteArray) (w:World) (hs:s.size<4294967281) (hok:Ok w):Calls Tryz.prog 94 #[.string s,.string ⟨#[33]⟩,.string ⟨#[47]⟩] w fun e w'=>e=.returned (.string (nodeS s))∧Below w.heap.size w w':=by
 obtain ⟨m,C⟩:=hok;have D:=Lib.countB_le ⟨#[33]⟩ (by show 1≤1;omega) _ s (Nat.le_refl _);have A:(⟨#[47]⟩:ByteArray).size=1:=rfl;refine (Tryz.strings_ReplaceAll s ⟨#[33]⟩ ⟨#[47]⟩ m w hs C (by show 1≤1;omega) (by rw [A];omega)).mono ?_;rintro e w' ⟨rfl,B⟩;exact ⟨by rw [← nodeS_eq s],B⟩

set_option maxRecDepth 10000 in
theorem RNode_any (d:Dev) (A:Option Addr) (c:Nat) (w:World) (hd:d.orig.size<4294967281) (hok:Ok w):Calls Tryz.prog 51 #[.agg #[.int .i64 d.idx,.int .i64 d.par,.string d.nm,.string d.orig,.string d.sub,.string d.drv,.string d.ali,.int .i64 d.kind,.int .i64 d.num,.slice A d.attrs.length c]] w fun e w'=>e=.returned (.tuple #[.string (nodeV d),.bool (nodeD d).isSome])∧Below w.heap.size w w':=by
 obtain ⟨w0,hw0⟩:∃ w0,w.alloc (.cells #[.int .i64 d.idx,.int .i64 d.par,.string d.nm,.string d.orig,.string d.sub,.string d.drv,.string d.ali,.int .i64 d.kind,.int .i64 d.num,.slice A d.attrs.length c] 84)=w0:=⟨_,rfl⟩;obtain ⟨I,M,F⟩:=box10 hw0;obtain ⟨N,O,P,Q,R,S,T,U,V,W⟩:=F.zero;have E:=Replace_any d.orig w0 hd (hok.next I);have C:=Lh_ E;have B:=Lh_ I;clear E hok F;go_enter Tryz.func51,Tryz.ntmps51;by_cases h2:d.kind=2
 ·
  have H:=Lh_ (nodeD_yes (.inl h2))
  have K:(d.kind != 2)=false:=by simp [h2]
  have J:=Lh_ h2;clear h2;go_wp2_with fail;refine C.out.mono ?_;rintro e w2 ⟨rfl,D⟩;have G:=Lh_ D;clear D;go_wp2;go_ret2;exact ⟨by unfold nodeV;rw [H.out];rfl,B.out.trans (G.out.mono B.out.size)⟩
 have K:(d.kind != 2)=true:=by simp [h2]
 by_cases h3:d.kind=3
 ·
  have H:=Lh_ (nodeD_yes (.inr h3))
  have L:(d.kind != 3)=false:=by simp [h3]
  have J:=Lh_ h3;clear h3 h2;go_wp2_with fail;refine C.out.mono ?_;rintro e w2 ⟨rfl,D⟩;have G:=Lh_ D;clear D;go_wp2;go_ret2;exact ⟨by unfold nodeV;rw [H.out];rfl,B.out.trans (G.out.mono B.out.size)⟩
 have L:(d.kind != 3)=true:=by simp [h3]
 have H:=Lh_ (nodeD_no (d:=d) (fun h=>h.elim h2 h3));clear h2 h3;go_wp2;go_ret2;exact ⟨by unfold nodeV;rw [H.out];rfl,B.out⟩

theorem index_any (A:Option Addr) (c:Nat) (L:List Dev) (n:Int) (w:World) (B:Nat) (hx:Sl w B A c L):Calls Tryz.prog 91 #[.slice A L.length c,.int .i64 n] w fun e w'=>e=.returned (.int .i64 (idxInt (fun d:Dev=>decide (d.idx=n)) L))∧w'=w:=by
 have R:=hx.1;have K:=hx.2.1;unfold maxLen at K;have N:=Lh_ hx;clear hx;go_enter Tryz.func91,Tryz.ntmps91;go_wp2_with fail;go_loop [5] (fun i=>∃ k:Nat,k≤L.length∧i=.int .i64 k∧Hid ((L.take k).all (fun d=>!decide (d.idx=n))=true)) (fun i=>L.length - (intOf i).toNat)
 case atStart=>exact ⟨0,Nat.zero_le _,rfl,rfl⟩
 obtain ⟨k,V,rfl,G⟩:=hrel;by_cases hlt:k<L.length
 ·
  obtain ⟨b,o,rfl,U,S,T,P,Q,E⟩:=N.out.dev hlt
  have I:=E.1;have C:=Lh_ hlt;obtain ⟨x,hxx⟩:∃ x,L[k]'hlt=x:=⟨_,rfl⟩;rw [hxx] at I;have D:=Lh_ hxx;clear hxx P Q E;by_cases hn:x.idx=n
  ·
   have O:(x.idx == n)=true:=beq_iff_eq.2 hn
   have F:=idxInt_some (p:=fun d:Dev=>decide (d.idx=n)) C.out G.out (by rw [D.out];exact decide_eq_true hn);have H:=Lh_ F;clear F hn;go_wp2;go_ret;exact ⟨by rw [H.out];try rfl,rfl⟩
  have O:(x.idx == n)=false:=beq_eq_false_iff_ne.2 hn;have M:=Lh_ hn;clear hn;go_wp2;go_round
  case rel=>exact ⟨k+1,by omega,by go_num,all_step G.out (List.getElem?_eq_getElem C.out) (by rw [D.out];simp [M.out])⟩
  simp [intOf];omega
 have J:k=L.length:=by omega
 have F:=idxInt_none (p:=fun d:Dev=>decide (d.idx=n)) (l:=L) (by have:=G.out;rw [J,List.take_length] at this;exact this);have H:=Lh_ F;clear F;go_wp2;go_ret;exact ⟨by rw [H.out];try rfl,rfl⟩
def zero10:List Value:=[.int .i64 0,.int .i64 0,.string ByteArray.empty,.string ByteArray.empty,.string ByteArray.empty,.string ByteArray.empty,.string ByteArray.empty,.int .i64 0,.int .i64 0,.slice none 0 0]
theorem zero_ok:devOk zeroD:=⟨⟨by decide,by decide⟩,⟨by decide,by decide⟩,Nat.zero_le _,Nat.zero_le _,Nat.zero_le _,Nat.zero_le _,Nat.zero_le _,⟨by decide,by decide⟩,⟨by decide,by decide⟩⟩
theorem find_idx (n:Int):∀ L:List Dev,(idxInt (fun d:Dev=>decide (d.idx=n)) L = -1∧findD L n=none)∨∃ (k:Nat) (h:k<L.length),idxInt (fun d:Dev=>decide (d.idx=n)) L=(k:Int)∧findD L n=some (L[k]'h)
 | []=>.inl ⟨rfl,rfl⟩
 | d :: r=>by
  by_cases hd:d.idx=n
  ·
   right
   refine ⟨0,by simp,?_,?_⟩
   · unfold idxInt;rw [List.findIdx?_cons,if_pos (decide_eq_true hd)];try rfl
   unfold findD;rw [List.find?_cons_of_pos (by exact decide_eq_true hd)];try rfl
  have hf:findD (d :: r) n=findD r n:=by unfold findD;rw [List.find?_cons_of_neg (by simpa using hd)]
  have A:∀ i,r.findIdx? (fun d:Dev=>decide (d.idx=n))=i→idxInt (fun d:Dev=>decide (d.idx=n)) (d :: r)=match i with | some j=>((j+1:Nat):Int) | none=>-1:=by
   intro i hri;unfold idxInt;rw [List.findIdx?_cons,if_neg (by simpa using hd),hri];cases i <;> rfl
  rcases find_idx n r with ⟨h1,h2⟩ | ⟨k,hk,h1,h2⟩
  ·
   left
   refine ⟨?_,by rw [hf,h2]⟩;cases hri:r.findIdx? (fun d:Dev=>decide (d.idx=n)) with
   | none=>rw [A _ hri]
   | some j=>unfold idxInt at h1;rw [hri] at h1;simp only at h1;omega
  right
  refine ⟨k+1,by simp;omega,?_,by rw [hf,h2];rfl⟩;cases hri:r.findIdx? (fun d:Dev=>decide (d.idx=n)) with
  | none=>unfold idxInt at h1;rw [hri] at h1;simp only at h1;omega
  | some j =>
   rw [A _ hri];unfold idxInt at h1;rw [hri] at h1;simp only at h1 ⊢;omega
theorem below10 {B gr:Nat} {a w:World} (h:Below B a w) (hg:B≤gr) (v0 v1 v2 v3 v4 v5 v6 v7 v8 v9:Value):Below B a ((((((((((w.setCell ⟨gr,0,none⟩ (v0)).setCell ⟨gr,1,none⟩ (v1)).setCell ⟨gr,2,none⟩ (v2)).setCell ⟨gr,3,none⟩ (v3)).setCell ⟨gr,4,none⟩ (v4)).setCell ⟨gr,5,none⟩ (v5)).setCell ⟨gr,6,none⟩ (v6)).setCell ⟨gr,7,none⟩ (v7)).setCell ⟨gr,8,none⟩ (v8)).setCell ⟨gr,9,none⟩ (v9)) :=
 (((((((((h.setCell (by exact hg) _).setCell (by exact hg) _).setCell (by exact hg) _).setCell (by exact hg) _).setCell (by exact hg) _).setCell (by exact hg) _).setCell (by exact hg) _).setCell (by exact hg) _).setCell (by exact hg) _).setCell (by exact hg) _
theorem info_dev:(Tryz.prog.info? 84).map (fun i=>(i.zero,i.size,i.bytes))=some (some (.agg #[.int .i64 0,.int .i64 0,.string ByteArray.empty,.string ByteArray.empty,.string ByteArray.empty,.string ByteArray.empty,.string ByteArray.empty,.int .i64 0,.int .i64 0,.slice none 0 0]),10,136):=by kernel_rfl
theorem info_dev2:(Tryz.prog.info? 84).map (fun i=>(i.zero,i.size))=some (some (.agg #[.int .i64 0,.int .i64 0,.string ByteArray.empty,.string ByteArray.empty,.string ByteArray.empty,.string ByteArray.empty,.string ByteArray.empty,.int .i64 0,.int .i64 0,.slice none 0 0]),10):=by kernel_rfl
def FindPost (L:List Dev) (n:Int) (B:Nat) (w:World) (e:Ending) (w':World):Prop:=Below w.heap.size w w'∧∃ (d:Dev) (A2:Option Addr) (c2:Nat),d=(findD L n).getD zeroD∧e=.returned (.tuple #[.agg #[.int .i64 d.idx,.int .i64 d.par,.string d.nm,.string d.orig,.string d.sub,.string d.drv,.string d.ali,.int .i64 d.kind,.int .i64 d.num,.slice A2 d.attrs.length c2],.bool (findD L n).isSome])∧devOk d∧Sl w' B A2 c2 d.attrs
set_option maxHeartbeats 4000000 in
set_option maxRecDepth 100000 in
theorem RFind_any (A:Option Addr) (c:Nat) (L:List Dev) (n:Int) (w:World) (B:Nat) (hB:B≤w.heap.size) (hx:Sl w B A c L):Calls Tryz.prog 48 #[.agg #[.slice A L.length c],.int .i64 n] w (FindPost L n B w):=by
 have S0:=(zero_of_info (P:=Tryz.prog) (t:=84) info_dev2).1;have R0:=hx.1;have Z:=hx.2.1;unfold maxLen at Z;have HX:=Lh_ hx;have HB:=Lh_ hB;clear hx hB;go_enter Tryz.func48,Tryz.ntmps48;go_upto_region 1 with fail
 obtain ⟨w1,hw1⟩:∃ w1,w.alloc (.cells #[.slice A L.length c] 47)=w1:=⟨_,rfl⟩;obtain ⟨w2,hw2⟩:∃ w2,w1.alloc (.cells #[.int .i64 0,.int .i64 0,.string ByteArray.empty,.string ByteArray.empty,.string ByteArray.empty,.string ByteArray.empty,.string ByteArray.empty,.int .i64 0,.int .i64 0,.slice none 0 0] 84)=w2:=⟨_,rfl⟩;have E:Below w.heap.size w w1:=by rw [← hw1];exact (Below.refl _ _).alloc (Nat.le_refl _) _
 have F:Below w1.heap.size w1 w2:=by rw [← hw2];exact (Below.refl _ _).alloc (Nat.le_refl _) _
 have R:BoxL w1 w.heap.size [.slice A L.length c]:=box_mk hw1;have Q:BoxL w2 w1.heap.size zero10:=box_mk hw2;have N:w1.heap.size=w.heap.size+1:=by rw [← hw1];simp
 have O:w2.heap.size=w1.heap.size+1:=by rw [← hw2];simp
 have S:=R.kept (grown_none F) (fun e=>by cases e);have C:Below w.heap.size w w2:=E.trans (F.mono E.size);try rw [hw1]
 try rw [hw2]
 have V:=Lh_ Q;have HT:=Lh_ S;have I:=Lh_ C;have U:=Lh_ (And.intro N O);have T:=HX.out.keep (C.mono HB.out);have M:=Lh_ T;clear hw1 hw2 E F R Q S C T N O;have t0:=HT.out.1 0 _ rfl;try rw [show w.heap.size+1=w1.heap.size from U.out.1.symm]
 go_wp2_with fail;refine (index_any A c L n w2 B M.out).mono ?_;rintro e w3 ⟨rfl,rfl⟩;rcases find_idx n L with ⟨h1,h2⟩ | ⟨k,hk,h1,h2⟩
 ·
  rw [h1]
  have J:=Lh_ h2;clear h1 h2;obtain ⟨y0,y1,y2,y3,y4,y5,y6,y7,y8,y9⟩:=s10_ V.out.1;have yf:=V.out.2.1;go_wp2;refine bodyPost_ret (v:=.tuple #[.agg #[.int .i64 0,.int .i64 0,.string ByteArray.empty,.string ByteArray.empty,.string ByteArray.empty,.string ByteArray.empty,.string ByteArray.empty,.int .i64 0,.int .i64 0,.slice none 0 0],.bool false]) (by simp [results,Tryz.results48,go_sem,y0,y1,y2,y3,y4,y5,y6,y7,y8,y9]) rfl ⟨below10 I.out (by have:=U.out;omega) _ _ _ _ _ _ _ _ _ _,zeroD,none,0,by rw [J.out];rfl,by rw [J.out];rfl,zero_ok,Sl.nil_⟩
 rw [h1];have J:=Lh_ h2;clear h1 h2;obtain ⟨b,o,rfl,hb,A2,c2,H,D,G⟩:=M.out.dev hk;obtain ⟨d,hd⟩:∃ d,L[k]'hk=d:=⟨_,rfl⟩;have K:=Lh_ (show findD L n=some d by rw [J.out,hd]);rw [hd] at H D G;have Y:=Lh_ H;have W:=Lh_ D;have X:=Lh_ G;have O0:=Lh_ hb;clear H D G hb hd J;obtain ⟨d0,d1,d2,d3,d4,d5,d6,d7,d8,d9⟩:=X.out;have i1:¬ (k:Int)<0:=by omega
 have i2:(0:Int)≤(k:Int):=by omega
 obtain ⟨y0,y1,y2,y3,y4,y5,y6,y7,y8,y9⟩:=s10_ V.out.1;have yf:=V.out.2.1;go_wp2;refine bodyPost_ret (v:=.tuple #[.agg #[.int .i64 d.idx,.int .i64 d.par,.string d.nm,.string d.orig,.string d.sub,.string d.drv,.string d.ali,.int .i64 d.kind,.int .i64 d.num,.slice A2 d.attrs.length c2],.bool true]) (by simp [results,Tryz.results48,go_sem,y0,y1,y2,y3,y4,y5,y6,y7,y8,y9]) rfl ⟨below10 I.out (by have:=U.out;omega) _ _ _ _ _ _ _ _ _ _,d,A2,c2,by rw [K.out];rfl,by rw [K.out];rfl,Y.out,?_⟩;exact W.out.keep (below10 (Below.refl B w3) (by have:=U.out;have:=HB.out;omega) _ _ _ _ _ _ _ _ _ _)
theorem cell10_new (w:World) (t:TypeId) (d:Dev) (A2:Option Addr) (c2:Nat):∀ j u,(devCells d A2 c2)[j]? = some u→
  (w.alloc (.cells #[.int .i64 d.idx,.int .i64 d.par,.string d.nm,.string d.orig,.string d.sub,.string d.drv,.string d.ali,.int .i64 d.kind,.int .i64 d.num,.slice A2 d.attrs.length c2] t)).cell? ((⟨w.heap.size,0,none⟩:Addr).add j)=some u:=by
 intro j u hj;rw [add_mk,Nat.zero_add,World.cell?_alloc_at _ _ _ _ rfl];simpa [devCells] using hj
theorem drdS_old {w:World} {B:Nat} {d:Dev} {A2:Option Addr} {c2:Nat} {v:Value} {base:Nat} (h1:devOk d) (h2:Sl w B A2 c2 d.attrs) (hB:B≤base) (hw:base≤w.heap.size) (hv:∀ k,v.ownBlock=some k→base≤k) :
  RepS.rdS w (fun b=>b<B∧b<w.heap.size∧v.ownBlock≠some b) d (devCells d A2 c2):=by
 refine ⟨A2,c2,rfl,h1,SlS.mono (fun b (hb:b<B)=>⟨hb,by omega,fun e=>by have:=hv b e;omega⟩) (fun _ _ _ _ hu=>hu) (SlS_iff.1 h2)⟩
theorem dev_one (d:Dev) (A2:Option Addr) (c2:Nat):∀ u ∈ devCells d A2 c2,u.oneCell'=true:=by
 intro u hu;simp only [devCells,List.mem_cons,List.not_mem_nil,or_false] at hu;rcases hu with rfl | rfl | rfl | rfl | rfl | rfl | rfl | rfl | rfl | rfl <;> rfl
def lenV:Value→Nat
 | .slice _ k _=>k
 | _=>0
def ChRel (w0 w1:World) (B:Nat) (T:TypeId) (L:List Dev) (n:Int) (v:Value) (m:Int) (wr:World):Prop :=
 ∃ acc:List Dev,OwnsS (fun x=>x<B) wr w0.heap.size T v acc∧Below w1.heap.size w1 wr∧acc ++ chainL L (L.length - acc.length) m=chainO L n∧acc.length≤L.length∧okI m∧∀ k,v.ownBlock=some k→w1.heap.size≤k
set_option maxHeartbeats 8000000 in
set_option maxRecDepth 100000 in
theorem RChain_any (A:Option Addr) (c:Nat) (L:List Dev) (n:Int) (w:World) (B:Nat) (hB:B≤w.heap.size) (hx:Sl w B A c L) (hL:L.length≤1000) (hn:okI n):Calls Tryz.prog 136 #[.agg #[.slice A L.length c],.int .i64 n] w fun e w'=>Below w.heap.size w w'∧∃ v,e=.returned v∧OwnsS (fun x=>x<B) w' w.heap.size 84 v (chainO L n):=by
 obtain ⟨i0,M1,S1,T1,U1⟩:=info_parts info_dev;have Z1:=Lh_ M1;clear M1;have G2:=Lh_ S1;clear S1;have H2:=Lh_ T1;clear T1;have I2:=Lh_ U1;clear U1;have D3:=hx.1;have M2:=hx.2.1;unfold maxLen at M2;have HX:=Lh_ hx;have HB:=Lh_ hB;have HL:=Lh_ hL;have Z0:=Lh_ hn;clear hx hB hL hn;go_enter Tryz.func136,Tryz.ntmps136;go_upto_region 1 with fail
 obtain ⟨w1,hw1⟩:∃ w1,w.alloc (.cells #[.slice A L.length c] 47)=w1:=⟨_,rfl⟩;have J1:Below w.heap.size w w1:=by rw [← hw1];exact (Below.refl _ _).alloc (Nat.le_refl _) _
 have Q1:BoxL w1 w.heap.size [.slice A L.length c]:=box_mk hw1;have K1:w1.heap.size=w.heap.size+1:=by rw [← hw1];simp
 rw [hw1];have V:ChRel w w1 B 84 L n (.slice none 0 0) n w1:=⟨[],OwnsS.nil_ _ _ _ _,Below.refl _ _,rfl,Nat.zero_le _,Z0.out,fun k hk=>by cases hk⟩;have O:=Lh_ V;have HT:=Lh_ Q1;have W0:=Lh_ J1;have W2:=Lh_ K1;clear hw1 J1 Q1 K1 V;go_wp2_with fail;go_loopw [5,1] (fun v u wr=>∃ m:Int,u=.int .i64 m∧Hid (ChRel w w1 B 84 L n v m wr)) (fun v _ _=>L.length - lenV v)
 case atStart=>exact ⟨n,rfl,O⟩
 obtain ⟨m,rfl,hq⟩:=hrel;obtain ⟨C,hown,Z,P1,I1,O1,R1⟩:=hq.out;have E2:=Lh_ R1;clear R1;clear hq O;obtain ⟨A5,c5,hv,X⟩:=hown.cs;have HV:=Lh_ hv;rw [hv];clear hv;have Q2:=X.1;have H1:=X.2.1;unfold maxLen at H1;have t0:=(HT.out.kept (grown_none Z) (fun e=>by cases e)).1 0 _ rfl;have E0:Below w.heap.size w wr:=W0.out.trans (Z.mono W0.out.size);have C0:=Lh_ hown;have M0:=Lh_ Z;have B1:=Lh_ P1;have V2:=Lh_ I1;have D:=Lh_ E0;have X2:=Lh_ O1;clear hown Z P1 E0 O1 X;by_cases hlt:C.length<L.length
 ·
  have i1:(C.length:Int)<(L.length:Int):=by omega
  have R:=RFind_any A c L m wr B (Nat.le_trans HB.out D.out.size) (HX.out.keep (D.out.mono HB.out));have N0:=Lh_ R;clear R;have K:=Lh_ hlt;clear hlt I1;go_wp2_with fail;refine N0.out.mono ?_;rintro e w3 ⟨S0,d,A2,c2,hd,rfl,N1,hat⟩;have E:C ++ (match findD L m with | none=>[] | some d=>d :: chainL L (L.length - C.length - 1) d.par)=chainO L n:=by
   have h:=B1.out;rw [show L.length - C.length=(L.length - C.length - 1)+1 by have:=K.out;omega,chainL] at h;exact h
  have C1:=Lh_ E;have F:=Lh_ S0;have B0:=Lh_ N1;have X1:=Lh_ hat;clear E N1 hat t0 i1;have H:=Lh_ (C0.out.below S0);clear S0;cases hf:findD L m with
  | none =>
   have E:=C1.out;rw [hf] at E;simp only [List.append_nil] at E;have J:=Lh_ E;clear E hf hd;go_upto_region 4 with fail
   obtain ⟨w4,hw4⟩:∃ w4,w3.alloc (.cells #[.int .i64 d.idx,.int .i64 d.par,.string d.nm,.string d.orig,.string d.sub,.string d.drv,.string d.ali,.int .i64 d.kind,.int .i64 d.num,.slice A2 d.attrs.length c2] 84)=w4:=⟨_,rfl⟩;obtain ⟨G,A0,-⟩:=box10 hw4;simp only [hw4];have Q0:=Lh_ (H.out.below G);have Y1:=Lh_ (D.out.trans ((F.out.trans (G.mono F.out.size)).mono D.out.size));clear hw4 G A0;go_wp2;go_ret;exact ⟨Y1.out,_,rfl,by rw [← J.out,← HV.out];exact Q0.out⟩
  | some d' =>
   rw [hf] at hd;have J2:d=d':=hd;subst J2;have E:=C1.out;rw [hf] at E;simp only at E;have D1:=Lh_ E;clear E hf hd;go_upto_region 4 with fail
   obtain ⟨w4,hw4⟩:∃ w4,w3.alloc (.cells #[.int .i64 d.idx,.int .i64 d.par,.string d.nm,.string d.orig,.string d.sub,.string d.drv,.string d.ali,.int .i64 d.kind,.int .i64 d.num,.slice A2 d.attrs.length c2] 84)=w4:=⟨_,rfl⟩;obtain ⟨G,A0,Q⟩:=box10 hw4;have F0:BoxL w4 w3.heap.size (devCells d A2 c2):=box_mk hw4;simp only [hw4];obtain ⟨x0,x1,x2,x3,x4,x5,x6,x7,x8,x9⟩:=Q.zero;obtain ⟨w5,hw5⟩:∃ w5,w4.alloc (.cells #[.int .i64 d.idx,.int .i64 d.par,.string d.nm,.string d.orig,.string d.sub,.string d.drv,.string d.ali,.int .i64 d.kind,.int .i64 d.num,.slice A2 d.attrs.length c2] 84)=w5:=⟨_,rfl⟩;obtain ⟨P,L1,-⟩:=box10 hw5;have I:=cell10_new w4 84 d A2 c2;rw [hw5] at I;have T:=H.out.below G;have Y:=H.out.lt;obtain ⟨B3,o1,o2,o3⟩:=T.below P;have D0:=(X1.out.keep (G.mono (by have:=D.out.size;have:=F.out.size;have:=HB.out;omega))).keep (P.mono (by have:=D.out.size;have:=F.out.size;have:=HB.out;omega));have L0:=drdS_old (v:=u5) B0.out D0 HB.out (by have:=D.out.size;have:=F.out.size;omega) (fun k hk=>(Y k hk).1);have G0:=F0.kept (grown_none P) (fun e=>by cases e);have C2:=Lh_ o2;have D2:=Lh_ o3;have P0:=Lh_ I;have A1:=Lh_ L0;have Y0:=Lh_ G0;have B2:=Lh_ o1;have F1:=Lh_ Y;have G1:=Lh_ (show ∀ k,u5.ownBlock=some k→w1.heap.size≤k from fun k hk=>E2.out k hk);have E1:=Lh_ (And.intro A0 L1);have X0:=Lh_ (G.trans (P.mono G.size));clear hw4 G A0 Q F0 P L1 I T o2 o3 D0 L0 G0 Y;go_upto_region 5 with fail
   rw [← HV.out];go_wp2_with (at_builtin;go_must (refine wpList_append_own_at _ rfl _ _ 45 rfl w.heap.size 84 i0 _ 10 136 Tryz.underlying45 Z1.out G2.out H2.out I2.out rfl (by decide) _ _ _ rfl o1 ⟨w4.heap.size,0,none⟩ 1 1 _ rfl rfl P0.out (dev_one d A2 c2) (by have:=K.out;have:=HL.out;unfold maxLen;omega) (by have:=K.out;have:=HL.out;omega) (by have:=E1.out;have:=D.out.size;have:=F.out.size;omega) ?_);intro v' w6 hown' hgrow _ hat';have U:=OwnsS.app (w:=w5) B2.out C2.out D2.out A1.out hown' hgrow (fun q hq=>Or.elim hat' (fun h=>.inl (h.symm.trans hq)) (fun h=>.inr (by rw [hq] at h;have:=Option.some.inj h;omega)));have H0:=Y0.out.kept hgrow (fun e=>by have:=(F1.out _ e.symm).2;omega);have y1:=H0.1 1 _ rfl;have F2:=Lh_ (show ∀ k,v'.ownBlock=some k→w1.heap.size≤k from fun q hq=>Or.elim hat' (fun h=>G1.out q (h.symm.trans hq)) (fun h=>by rw [hq] at h;have:=Option.some.inj h;have:=E1.out;have:=M0.out.size;have:=F.out.size;omega));have N:=Lh_ U;have O0:=Lh_ hgrow;clear U hown' hgrow hat' H0 x0 x1 x2 x3 x4 x5 x6 x7 x8 x9 o1 hw5);have I0:Below w1.heap.size w1 w6:=by
    have h1:Below wr.heap.size wr w5:=F.out.trans (X0.out.mono F.out.size);have h2:Below w1.heap.size w1 w5:=M0.out.trans (h1.mono M0.out.size);exact h2.grown O0.out h2.size (fun k hk=>G1.out k hk)
   have W:ChRel w w1 B 84 L n v' d.par w6:=by
    refine ⟨C ++ [d],N.out,I0,?_,by rw [List.length_append,List.length_singleton];have:=K.out;omega,B0.out.2.1,F2.out⟩;rw [List.length_append,List.length_singleton,List.append_assoc,List.singleton_append,show L.length - (C.length+1)=L.length - C.length - 1 by omega];exact D1.out
   have S:L.length - lenV v'<L.length - lenV (.slice A5 C.length c5):=by
    obtain ⟨A6,c6,L2,-⟩:=N.out.cs;rw [L2];show L.length - (C ++ [d]).length<L.length - C.length
    rw [List.length_append,List.length_singleton];have:=K.out;omega
   have R0:=Lh_ W;have M:=Lh_ S;clear I0 W S;try go_wp2
   go_roundw
   case rel=>exact ⟨d.par,rfl,R0⟩
   first | exact M.out | (rw [HV.out];exact M.out)
 have i1:¬ (C.length:Int)<(L.length:Int):=by omega
 have J0:C=chainO L n:=by
  have h:=B1.out;rw [show L.length - C.length=0 by omega,chainL,List.append_nil] at h;exact h
 have J:=Lh_ J0;clear J0 hlt;go_wp2;go_ret;exact ⟨D.out,_,rfl,by rw [← J.out,← HV.out];exact C0.out⟩
def OrRel (w0:World) (T:TypeId) (names:List ByteArray) (v:Value) (j:Int) (w2 wr:World):Prop :=
 ∃ k:Nat,j=(names.length:Int) - 1 - k∧k≤names.length∧OwnsS (fun _=>False) wr w0.heap.size T v (names.take k)∧Below w2.heap.size w2 wr∧∀ q,v.ownBlock=some q→w2.heap.size≤q
theorem info_txt:(Tryz.prog.info? 9).map (fun i=>(i.zero,i.size,i.bytes))=some (some (.string ByteArray.empty),1,16):=by kernel_rfl
set_option maxHeartbeats 8000000 in
set_option maxRecDepth 100000 in
theorem ROrigin_any (A:Option Addr) (c:Nat) (L:List Dev) (n:Int) (w:World) (B:Nat) (hB:B≤w.heap.size) (hx:Sl w B A c L) (hL:L.length≤1000) (hn:okI n):Calls Tryz.prog 92 #[.agg #[.slice A L.length c],.int .i64 n] w fun e w'=>Below w.heap.size w w'∧∃ v,e=.returned v∧OwnsS (fun _=>False) w' w.heap.size 9 v ((chainO L n).reverse.map (·.orig)):=by
 obtain ⟨i0,Q0,X0,Y0,Z0⟩:=info_parts info_txt;have D1:=Lh_ Q0;clear Q0;have K1:=Lh_ X0;clear X0;have L1:=Lh_ Y0;clear Y0;have M1:=Lh_ Z0;clear Z0;have J:(chainO L n).length≤L.length:=chain_len L L.length n;obtain ⟨ch,hchd⟩:∃ ch,chainO L n=ch:=⟨_,rfl⟩;rw [hchd] at J ⊢;obtain ⟨names,hnm⟩:∃ ns,ch.reverse.map (·.orig)=ns:=⟨_,rfl⟩;rw [hnm];have S0:names.length=ch.length:=by rw [← hnm];simp
 have E1:=Lh_ hnm;have C:=Lh_ S0;have E0:=Lh_ hchd;clear hnm S0 hchd;have HX:=Lh_ hx;have HB:=Lh_ hB;have HL:=Lh_ hL;have J0:=Lh_ hn;clear hx hB hL hn;go_enter Tryz.func92,Tryz.ntmps92;go_upto_region 2 with fail
 obtain ⟨w1,hw1⟩:∃ w1,w.alloc (.cells #[.slice A L.length c] 47)=w1:=⟨_,rfl⟩;have R:Below w.heap.size w w1:=by rw [← hw1];exact (Below.refl _ _).alloc (Nat.le_refl _) _
 have U0:BoxL w1 w.heap.size [.slice A L.length c]:=box_mk hw1;rw [hw1];have t0:=U0.1 0 _ rfl;have I:=RChain_any A c L n w1 B (Nat.le_trans HB.out R.size) (HX.out.keep (R.mono HB.out)) HL.out J0.out;have B1:=Lh_ R;have W:=Lh_ I;clear hw1 R U0 I;go_wp2_with fail;refine W.out.mono ?_;rintro e w2 ⟨L0,v,rfl,hown⟩;have N0:ch.length≤1000:=Nat.le_trans J HL.out;rw [E0.out] at hown;obtain ⟨A5,c5,rfl,S⟩:=hown.sl;have B2:=S.1;have N1:=S.2.1;unfold maxLen at N1;have I1:=Lh_ S;have V:=tb_ B1 L0;have F:=Lh_ N0;clear hown S L0 J t0 N0;have N:OrRel w 9 names (.slice none 0 0) ((ch.length:Int) - 1) w2 w2:=⟨0,by rw [C.out];omega,Nat.zero_le _,by rw [List.take_zero];exact OwnsS.nil_ _ _ _ _,Below.refl _ _,fun k hk=>by cases hk⟩;have H:=Lh_ N;have hwr0:wrap64 ((ch.length:Int) - 1)=(ch.length:Int) - 1:=by have:=F.out;unfold wrap64;omega
 have hwr0':IntKind.i64.wrap ((ch.length:Int) - 1)=(ch.length:Int) - 1:=by have:=F.out;rw [IntKind.wrap_i64];omega
 clear N;go_wp2_with fail;try rw [hwr0]
 clear hwr0 hwr0';go_loopw [5,7] (fun v i wr=>∃ j:Int,i=.int .i64 j∧Hid (OrRel w 9 names v j w2 wr)) (fun _ i _=>(intOf i+1).toNat)
 case atStart=>exact ⟨_,rfl,H⟩
 obtain ⟨j,rfl,P⟩:=hrel;obtain ⟨k,hj,hk,hown,M0,V0⟩:=P.out;clear P H;have G:=Lh_ hown;have E:=Lh_ M0;have K0:=Lh_ V0;have Q:=Lh_ (And.intro hj hk);clear hown M0 V0 hj hk;by_cases h0:0≤j
 ·
  obtain ⟨t,rfl⟩:=Int.eq_ofNat_of_zero_le h0
  have ht:t<ch.length:=by have:=Q.out;have:=C.out;omega
  obtain ⟨b,o,rfl,hb,A2,c2,D0,hat,O0⟩:=(I1.out.next (Nat.le_refl _) E.out).dev ht;have x3:=O0.2.2.2.1;obtain ⟨d,hd⟩:∃ d,ch[t]'ht=d:=⟨_,rfl⟩;rw [hd] at x3 D0;have K:names[k]? = some d.orig:=by
   rw [← E1.out,List.getElem?_map,List.getElem?_reverse (by have:=Q.out;have:=C.out;omega),show ch.length - 1 - k=t by have:=Q.out;have:=C.out;omega,List.getElem?_eq_getElem ht,hd];rfl
  have Y:=Lh_ K;have HT:=Lh_ ht;have I0:=Lh_ D0;clear K ht D0 hat O0 hd hb;obtain ⟨w3,hw3⟩:∃ w3,wr.alloc (.cells #[.string d.orig] 9)=w3:=⟨_,rfl⟩;have C0:Below wr.heap.size wr w3:=by rw [← hw3];exact (Below.refl _ _).alloc (Nat.le_refl _) _
  have P0:w3.heap.size=wr.heap.size+1:=by rw [← hw3];simp
  have D:=cell_one_new wr (.string d.orig) 9;rw [hw3] at D;have W0:=G.out.lt;obtain ⟨Y1,o1,o2,o3⟩:=G.out.below C0;have R0:(names.take k).length=k:=by rw [List.length_take];have:=Q.out;omega
  have F1:=Lh_ o1;have G1:=Lh_ o2;have H1:=Lh_ o3;have Z:=Lh_ D;have C1:=Lh_ C0;have G0:=Lh_ P0;have H0:=Lh_ R0;have hwr:wrap64 ((t:Int) - 1)=(t:Int) - 1:=by have:=F.out;have:=HT.out;unfold wrap64;omega
  have hwr':IntKind.i64.wrap ((t:Int) - 1)=(t:Int) - 1:=by have:=F.out;have:=HT.out;rw [IntKind.wrap_i64];omega
  clear o2 o3 D C0 P0 W0 R0;go_wp2_with (at_builtin;go_must (refine wpList_append_own_at _ rfl _ _ 27 rfl w.heap.size 9 i0 _ 1 16 Tryz.underlying27 D1.out K1.out L1.out M1.out rfl (by decide) _ _ _ rfl o1 ⟨wr.heap.size,0,none⟩ 1 1 _ rfl rfl Z.out (fun u hu=>by simp at hu;subst hu;rfl) (by rw [H0.out];have:=Q.out;have:=C.out;have:=F.out;unfold maxLen;omega) (by rw [H0.out];have:=Q.out;have:=C.out;have:=F.out;omega) (by have:=G0.out;have:=E.out.size;have:=V.out.size;omega) ?_);intro v' w4 hown' hgrow _ hat';have M:=OwnsS.app (w:=w3) F1.out G1.out H1.out (x:=d.orig) (cs:=[.string d.orig]) ⟨rfl,I0.out.2.2.2.1⟩ hown' hgrow (fun q P=>Or.elim hat' (fun h=>.inl (h.symm.trans P)) (fun h=>.inr (by rw [P] at h;have:=Option.some.inj h;omega)));have J1:=Lh_ (show ∀ q,v'.ownBlock=some q→w2.heap.size≤q from fun q P=>Or.elim hat' (fun h=>K0.out q (h.symm.trans P)) (fun h=>by rw [P] at h;have:=Option.some.inj h;have:=G0.out;have:=E.out.size;omega));have A0:=Lh_ M;have X:=Lh_ hgrow;clear M hown' hgrow hat' o1 hw3 x3);have T:Below w2.heap.size w2 w4:=by
   have h1:Below w2.heap.size w2 w3:=E.out.trans (C1.out.mono E.out.size);exact h1.grown X.out h1.size (fun q P=>K0.out q P)
  have O:OrRel w 9 names v' ((t:Int) - 1) w2 w4:=by
   refine ⟨k+1,by have:=Q.out;omega,by have:=Q.out;have:=C.out;omega,?_,T,J1.out⟩;rw [List.take_add_one,Y.out];exact A0.out
  have B0:=Lh_ O;clear O T;try go_wp2
  go_roundw
  case rel=>exact ⟨_,by first | rfl | (simp only [hwr,hwr']),B0⟩
  first | (simp [intOf];done) | (simp [intOf];omega) | (simp [intOf,hwr,hwr'];omega)
 have U:names.take k=names:=List.take_of_length_le (by have:=Q.out;omega);have F0:=Lh_ U;clear U;go_wp2;go_ret;exact ⟨V.out.trans (E.out.mono V.out.size),_,rfl,by have h:=G.out;rw [F0.out] at h;exact h⟩
theorem node_size {d:Dev} {s:ByteArray} (h:nodeD d=some s):s.size=d.orig.size:=by
 unfold nodeD at h;split at h
 · rw [← Option.some.inj h,nodeS_size]
 cases h
set_option maxHeartbeats 8000000 in
set_option maxRecDepth 100000 in
theorem RClash_any (a b:Dev) (A1 A2:Option Addr) (c1 c2:Nat) (w:World) (ha:a.orig.size≤4294967280) (hb:b.orig.size≤4294967280) (hok:Ok w):Calls Tryz.prog 98 #[.agg #[.int .i64 a.idx,.int .i64 a.par,.string a.nm,.string a.orig,.string a.sub,.string a.drv,.string a.ali,.int .i64 a.kind,.int .i64 a.num,.slice A1 a.attrs.length c1],.agg #[.int .i64 b.idx,.int .i64 b.par,.string b.nm,.string b.orig,.string b.sub,.string b.drv,.string b.ali,.int .i64 b.kind,.int .i64 b.num,.slice A2 b.attrs.length c2]] w fun e w'=>e=.returned (.bool (clashB a b))∧Below w.heap.size w w':=by
 have HA:=Lh_ ha;have HB:=Lh_ hb;have T:=Lh_ hok;clear ha hb hok;go_enter Tryz.func98,Tryz.ntmps98;go_upto_region 1 with fail
 obtain ⟨w1,hw1⟩:∃ w1,w.alloc (.cells #[.int .i64 a.idx,.int .i64 a.par,.string a.nm,.string a.orig,.string a.sub,.string a.drv,.string a.ali,.int .i64 a.kind,.int .i64 a.num,.slice A1 a.attrs.length c1] 84)=w1:=⟨_,rfl⟩;obtain ⟨w2,hw2⟩:∃ w2,w1.alloc (.cells #[.int .i64 b.idx,.int .i64 b.par,.string b.nm,.string b.orig,.string b.sub,.string b.drv,.string b.ali,.int .i64 b.kind,.int .i64 b.num,.slice A2 b.attrs.length c2] 84)=w2:=⟨_,rfl⟩;obtain ⟨V0,X0,C1⟩:=box10 hw1;obtain ⟨W0,B1,D1⟩:=box10 hw2;try rw [hw1]
 try rw [hw2]
 have e1:w.heap.size+1=w1.heap.size:=X0.symm;try rw [e1]
 have hp:=C1.keep W0 (by omega);have HP:=Lh_ hp;have HQ:=Lh_ D1;have S:=Lh_ (V0.trans (W0.mono V0.size));have U:=Lh_ (And.intro X0 B1);clear hw1 hw2 V0 W0 X0 B1 C1 D1 hp e1;obtain ⟨V,W,X,Y,Z,p5,p6,p7,p8,p9⟩:=HP.out.zero;obtain ⟨q0,q1,q2,q3,q4,q5,q6,q7,q8,q9⟩:=HQ.out.zero;by_cases ha4:a.kind=4
 ·
  have ea:(a.kind == 4)=true:=beq_iff_eq.2 ha4
  by_cases G:b.kind=4
  ·
   have eb:(b.kind == 4)=true:=beq_iff_eq.2 G
   by_cases hnm:a.nm=b.nm
   ·
    have en:(a.nm.toList == b.nm.toList)=true:=by rw [ba_beq];exact decide_eq_true hnm
    have A:=Lh_ (show clashB a b=true by unfold clashB;simp [ha4,G,hnm]);clear ha4 G hnm;go_wp2;go_ret;exact ⟨ret_bool (by rw [A.out];try rfl),S.out⟩
   have I1:(a.nm.toList == b.nm.toList)=false:=by rw [ba_beq];exact decide_eq_false hnm
   have M:=Lh_ (show (decide (a.kind=4) && (decide (b.kind=4) && decide (a.nm=b.nm)))=false by simp [hnm]);clear ha4 G hnm;go_wp2_with fail;refine (RNode_any a A1 c1 w2 (by have:=HA.out;omega) (T.out.next S.out)).mono ?_;rintro e w3 ⟨rfl,I⟩;clear V W X Y Z p5 p6 p7 p8 p9 q0 q1 q2 q3 q4 q5 q6 q7 q8 q9;obtain ⟨V,W,X,Y,Z,p5,p6,p7,p8,p9⟩:=(HP.out.keep I (by have:=U.out;omega)).zero;obtain ⟨q0,q1,q2,q3,q4,q5,q6,q7,q8,q9⟩:=(HQ.out.keep I (by have:=U.out;omega)).zero;have R:=Lh_ I;have K:=tb_ S I;clear I;go_wp2_with fail;refine (RNode_any b A2 c2 w3 (by have:=HB.out;omega) (T.out.next K.out)).mono ?_;rintro e w4 ⟨rfl,G⟩;clear V W X Y Z p5 p6 p7 p8 p9 q0 q1 q2 q3 q4 q5 q6 q7 q8 q9;have H:=R.out.trans (G.mono R.out.size);obtain ⟨V,W,X,Y,Z,p5,p6,p7,p8,p9⟩:=(HP.out.keep H (by have:=U.out;omega)).zero;obtain ⟨q0,q1,q2,q3,q4,q5,q6,q7,q8,q9⟩:=(HQ.out.keep H (by have:=U.out;omega)).zero;have C:=tb_ K G;clear G H;unfold nodeV;cases hna:nodeD a with
   | none =>
    simp only [Option.isSome_none,Option.getD_none];have A:=Lh_ (show clashB a b=false by unfold clashB;rw [hna];simp only [M.out];rfl);clear hna;go_wp2;go_ret;exact ⟨ret_bool (by rw [A.out];try rfl),C.out⟩
   | some s =>
    cases hnb:nodeD b with
    | none =>
     simp only [Option.isSome_none,Option.isSome_some,Option.getD_none,Option.getD_some];have A:=Lh_ (show clashB a b=false by unfold clashB;rw [hna,hnb];simp only [M.out];rfl);clear hna hnb;go_wp2;go_ret;exact ⟨ret_bool (by rw [A.out];try rfl),C.out⟩
    | some u =>
     simp only [Option.isSome_some,Option.getD_some];have J:=Lh_ (And.intro (node_size hna) (node_size hnb));have D:=Lh_ hna;have E:=Lh_ hnb;clear hna hnb;have B:=M.out;have L:=Lh_ B;clear B;by_cases hkk:a.kind=b.kind
     ·
      have ek:(a.kind == b.kind)=true:=beq_iff_eq.2 hkk
      by_cases hnn:a.num=b.num
      ·
       have en:(a.num == b.num)=true:=beq_iff_eq.2 hnn
       have A:=Lh_ (show clashB a b=true by unfold clashB;rw [D.out,E.out];simp [hkk,hnn]);clear hkk hnn;go_wp2;go_ret;exact ⟨ret_bool (by rw [A.out];try rfl),C.out⟩
      have en:(a.num == b.num)=false:=beq_eq_false_iff_ne.2 hnn;have N:=Lh_ (show (decide (a.kind=b.kind) && decide (a.num=b.num))=false by simp [hnn]);clear hkk hnn;by_cases hsu:s=u
      ·
       have es:(s.toList == u.toList)=true:=by rw [ba_beq];exact decide_eq_true hsu
       have A:=Lh_ (show clashB a b=true by unfold clashB;rw [D.out,E.out];simp [hsu]);clear hsu;go_wp2;go_ret;exact ⟨ret_bool (by rw [A.out];try rfl),C.out⟩
      have es:(s.toList == u.toList)=false:=by rw [ba_beq];exact decide_eq_false hsu
      have P:=Lh_ hsu;clear hsu;go_wp2_with fail;refine (RBeneath_any s u w4 (by rw [J.out.1];exact HA.out)).mono ?_;rintro e w5 ⟨rfl,F⟩;subst F;cases hsb:belowB s u with
      | true =>
       have A:=Lh_ (show clashB a b=true by unfold clashB;rw [D.out,E.out];simp [hsb]);clear hsb;go_wp2;go_ret;exact ⟨ret_bool (by rw [A.out];try rfl),C.out⟩
      | false =>
       have O:=Lh_ hsb;clear hsb;go_wp2_with fail;refine (RBeneath_any u s w4 (by rw [J.out.2];exact HB.out)).mono ?_;rintro e w5 ⟨rfl,F⟩;subst F;have A:=Lh_ (show clashB a b=belowB u s by unfold clashB;rw [D.out,E.out];have B:=L.out;have Q:=N.out;simp [P.out,O.out,B,Q]);obtain ⟨z,hz⟩:∃ z,belowB u s=z:=⟨_,rfl⟩;rw [hz];have HZ:=Lh_ hz;clear hz;go_wp2;go_ret;exact ⟨ret_bool (by rw [A.out,HZ.out];try rfl),C.out⟩
     have ek:(a.kind == b.kind)=false:=beq_eq_false_iff_ne.2 hkk;have N:=Lh_ (show (decide (a.kind=b.kind) && decide (a.num=b.num))=false by simp [hkk]);clear hkk;by_cases hsu:s=u
     ·
      have es:(s.toList == u.toList)=true:=by rw [ba_beq];exact decide_eq_true hsu
      have A:=Lh_ (show clashB a b=true by unfold clashB;rw [D.out,E.out];simp [hsu]);clear hsu;go_wp2;go_ret;exact ⟨ret_bool (by rw [A.out];try rfl),C.out⟩
     have es:(s.toList == u.toList)=false:=by rw [ba_beq];exact decide_eq_false hsu
     have P:=Lh_ hsu;clear hsu;go_wp2_with fail;refine (RBeneath_any s u w4 (by rw [J.out.1];exact HA.out)).mono ?_;rintro e w5 ⟨rfl,F⟩;subst F;cases hsb:belowB s u with
     | true =>
      have A:=Lh_ (show clashB a b=true by unfold clashB;rw [D.out,E.out];simp [hsb]);clear hsb;go_wp2;go_ret;exact ⟨ret_bool (by rw [A.out];try rfl),C.out⟩
     | false =>
      have O:=Lh_ hsb;clear hsb;go_wp2_with fail;refine (RBeneath_any u s w4 (by rw [J.out.2];exact HB.out)).mono ?_;rintro e w5 ⟨rfl,F⟩;subst F;have A:=Lh_ (show clashB a b=belowB u s by unfold clashB;rw [D.out,E.out];have B:=L.out;have Q:=N.out;simp [P.out,O.out,B,Q]);obtain ⟨z,hz⟩:∃ z,belowB u s=z:=⟨_,rfl⟩;rw [hz];have HZ:=Lh_ hz;clear hz;go_wp2;go_ret;exact ⟨ret_bool (by rw [A.out,HZ.out];try rfl),C.out⟩
  have eb:(b.kind == 4)=false:=beq_eq_false_iff_ne.2 G;have M:=Lh_ (show (decide (a.kind=4) && (decide (b.kind=4) && decide (a.nm=b.nm)))=false by simp [G]);clear ha4 G;go_wp2_with fail;refine (RNode_any a A1 c1 w2 (by have:=HA.out;omega) (T.out.next S.out)).mono ?_;rintro e w3 ⟨rfl,I⟩;clear V W X Y Z p5 p6 p7 p8 p9 q0 q1 q2 q3 q4 q5 q6 q7 q8 q9;obtain ⟨V,W,X,Y,Z,p5,p6,p7,p8,p9⟩:=(HP.out.keep I (by have:=U.out;omega)).zero;obtain ⟨q0,q1,q2,q3,q4,q5,q6,q7,q8,q9⟩:=(HQ.out.keep I (by have:=U.out;omega)).zero;have R:=Lh_ I;have K:=tb_ S I;clear I;go_wp2_with fail;refine (RNode_any b A2 c2 w3 (by have:=HB.out;omega) (T.out.next K.out)).mono ?_;rintro e w4 ⟨rfl,G⟩;clear V W X Y Z p5 p6 p7 p8 p9 q0 q1 q2 q3 q4 q5 q6 q7 q8 q9;have H:=R.out.trans (G.mono R.out.size);obtain ⟨V,W,X,Y,Z,p5,p6,p7,p8,p9⟩:=(HP.out.keep H (by have:=U.out;omega)).zero;obtain ⟨q0,q1,q2,q3,q4,q5,q6,q7,q8,q9⟩:=(HQ.out.keep H (by have:=U.out;omega)).zero;have C:=tb_ K G;clear G H;unfold nodeV;cases hna:nodeD a with
  | none =>
   simp only [Option.isSome_none,Option.getD_none];have A:=Lh_ (show clashB a b=false by unfold clashB;rw [hna];simp only [M.out];rfl);clear hna;go_wp2;go_ret;exact ⟨ret_bool (by rw [A.out];try rfl),C.out⟩
  | some s =>
   cases hnb:nodeD b with
   | none =>
    simp only [Option.isSome_none,Option.isSome_some,Option.getD_none,Option.getD_some];have A:=Lh_ (show clashB a b=false by unfold clashB;rw [hna,hnb];simp only [M.out];rfl);clear hna hnb;go_wp2;go_ret;exact ⟨ret_bool (by rw [A.out];try rfl),C.out⟩
   | some u =>
    simp only [Option.isSome_some,Option.getD_some];have J:=Lh_ (And.intro (node_size hna) (node_size hnb));have D:=Lh_ hna;have E:=Lh_ hnb;clear hna hnb;have B:=M.out;have L:=Lh_ B;clear B;by_cases hkk:a.kind=b.kind
    ·
     have ek:(a.kind == b.kind)=true:=beq_iff_eq.2 hkk
     by_cases hnn:a.num=b.num
     ·
      have en:(a.num == b.num)=true:=beq_iff_eq.2 hnn
      have A:=Lh_ (show clashB a b=true by unfold clashB;rw [D.out,E.out];simp [hkk,hnn]);clear hkk hnn;go_wp2;go_ret;exact ⟨ret_bool (by rw [A.out];try rfl),C.out⟩
     have en:(a.num == b.num)=false:=beq_eq_false_iff_ne.2 hnn;have N:=Lh_ (show (decide (a.kind=b.kind) && decide (a.num=b.num))=false by simp [hnn]);clear hkk hnn;by_cases hsu:s=u
     ·
      have es:(s.toList == u.toList)=true:=by rw [ba_beq];exact decide_eq_true hsu
      have A:=Lh_ (show clashB a b=true by unfold clashB;rw [D.out,E.out];simp [hsu]);clear hsu;go_wp2;go_ret;exact ⟨ret_bool (by rw [A.out];try rfl),C.out⟩
     have es:(s.toList == u.toList)=false:=by rw [ba_beq];exact decide_eq_false hsu
     have P:=Lh_ hsu;clear hsu;go_wp2_with fail;refine (RBeneath_any s u w4 (by rw [J.out.1];exact HA.out)).mono ?_;rintro e w5 ⟨rfl,F⟩;subst F;cases hsb:belowB s u with
     | true =>
      have A:=Lh_ (show clashB a b=true by unfold clashB;rw [D.out,E.out];simp [hsb]);clear hsb;go_wp2;go_ret;exact ⟨ret_bool (by rw [A.out];try rfl),C.out⟩
     | false =>
      have O:=Lh_ hsb;clear hsb;go_wp2_with fail;refine (RBeneath_any u s w4 (by rw [J.out.2];exact HB.out)).mono ?_;rintro e w5 ⟨rfl,F⟩;subst F;have A:=Lh_ (show clashB a b=belowB u s by unfold clashB;rw [D.out,E.out];have B:=L.out;have Q:=N.out;simp [P.out,O.out,B,Q]);obtain ⟨z,hz⟩:∃ z,belowB u s=z:=⟨_,rfl⟩;rw [hz];have HZ:=Lh_ hz;clear hz;go_wp2;go_ret;exact ⟨ret_bool (by rw [A.out,HZ.out];try rfl),C.out⟩
    have ek:(a.kind == b.kind)=false:=beq_eq_false_iff_ne.2 hkk;have N:=Lh_ (show (decide (a.kind=b.kind) && decide (a.num=b.num))=false by simp [hkk]);clear hkk;by_cases hsu:s=u
    ·
     have es:(s.toList == u.toList)=true:=by rw [ba_beq];exact decide_eq_true hsu
     have A:=Lh_ (show clashB a b=true by unfold clashB;rw [D.out,E.out];simp [hsu]);clear hsu;go_wp2;go_ret;exact ⟨ret_bool (by rw [A.out];try rfl),C.out⟩
    have es:(s.toList == u.toList)=false:=by rw [ba_beq];exact decide_eq_false hsu
    have P:=Lh_ hsu;clear hsu;go_wp2_with fail;refine (RBeneath_any s u w4 (by rw [J.out.1];exact HA.out)).mono ?_;rintro e w5 ⟨rfl,F⟩;subst F;cases hsb:belowB s u with
    | true =>
     have A:=Lh_ (show clashB a b=true by unfold clashB;rw [D.out,E.out];simp [hsb]);clear hsb;go_wp2;go_ret;exact ⟨ret_bool (by rw [A.out];try rfl),C.out⟩
    | false =>
     have O:=Lh_ hsb;clear hsb;go_wp2_with fail;refine (RBeneath_any u s w4 (by rw [J.out.2];exact HB.out)).mono ?_;rintro e w5 ⟨rfl,F⟩;subst F;have A:=Lh_ (show clashB a b=belowB u s by unfold clashB;rw [D.out,E.out];have B:=L.out;have Q:=N.out;simp [P.out,O.out,B,Q]);obtain ⟨z,hz⟩:∃ z,belowB u s=z:=⟨_,rfl⟩;rw [hz];have HZ:=Lh_ hz;clear hz;go_wp2;go_ret;exact ⟨ret_bool (by rw [A.out,HZ.out];try rfl),C.out⟩
 have ea:(a.kind == 4)=false:=beq_eq_false_iff_ne.2 ha4;have M:=Lh_ (show (decide (a.kind=4) && (decide (b.kind=4) && decide (a.nm=b.nm)))=false by simp [ha4]);clear ha4;go_wp2_with fail;refine (RNode_any a A1 c1 w2 (by have:=HA.out;omega) (T.out.next S.out)).mono ?_;rintro e w3 ⟨rfl,I⟩;clear V W X Y Z p5 p6 p7 p8 p9 q0 q1 q2 q3 q4 q5 q6 q7 q8 q9;obtain ⟨V,W,X,Y,Z,p5,p6,p7,p8,p9⟩:=(HP.out.keep I (by have:=U.out;omega)).zero;obtain ⟨q0,q1,q2,q3,q4,q5,q6,q7,q8,q9⟩:=(HQ.out.keep I (by have:=U.out;omega)).zero;have R:=Lh_ I;have K:=tb_ S I;clear I;go_wp2_with fail;refine (RNode_any b A2 c2 w3 (by have:=HB.out;omega) (T.out.next K.out)).mono ?_;rintro e w4 ⟨rfl,G⟩;clear V W X Y Z p5 p6 p7 p8 p9 q0 q1 q2 q3 q4 q5 q6 q7 q8 q9;have H:=R.out.trans (G.mono R.out.size);obtain ⟨V,W,X,Y,Z,p5,p6,p7,p8,p9⟩:=(HP.out.keep H (by have:=U.out;omega)).zero;obtain ⟨q0,q1,q2,q3,q4,q5,q6,q7,q8,q9⟩:=(HQ.out.keep H (by have:=U.out;omega)).zero;have C:=tb_ K G;clear G H;unfold nodeV;cases hna:nodeD a with
 | none =>
  simp only [Option.isSome_none,Option.getD_none];have A:=Lh_ (show clashB a b=false by unfold clashB;rw [hna];simp only [M.out];rfl);clear hna;go_wp2;go_ret;exact ⟨ret_bool (by rw [A.out];try rfl),C.out⟩
 | some s =>
  cases hnb:nodeD b with
  | none =>
   simp only [Option.isSome_none,Option.isSome_some,Option.getD_none,Option.getD_some];have A:=Lh_ (show clashB a b=false by unfold clashB;rw [hna,hnb];simp only [M.out];rfl);clear hna hnb;go_wp2;go_ret;exact ⟨ret_bool (by rw [A.out];try rfl),C.out⟩
  | some u =>
   simp only [Option.isSome_some,Option.getD_some];have J:=Lh_ (And.intro (node_size hna) (node_size hnb));have D:=Lh_ hna;have E:=Lh_ hnb;clear hna hnb;have B:=M.out;have L:=Lh_ B;clear B;by_cases hkk:a.kind=b.kind
   ·
    have ek:(a.kind == b.kind)=true:=beq_iff_eq.2 hkk
    by_cases hnn:a.num=b.num
    ·
     have en:(a.num == b.num)=true:=beq_iff_eq.2 hnn
     have A:=Lh_ (show clashB a b=true by unfold clashB;rw [D.out,E.out];simp [hkk,hnn]);clear hkk hnn;go_wp2;go_ret;exact ⟨ret_bool (by rw [A.out];try rfl),C.out⟩
    have en:(a.num == b.num)=false:=beq_eq_false_iff_ne.2 hnn;have N:=Lh_ (show (decide (a.kind=b.kind) && decide (a.num=b.num))=false by simp [hnn]);clear hkk hnn;by_cases hsu:s=u
    ·
     have es:(s.toList == u.toList)=true:=by rw [ba_beq];exact decide_eq_true hsu
     have A:=Lh_ (show clashB a b=true by unfold clashB;rw [D.out,E.out];simp [hsu]);clear hsu;go_wp2;go_ret;exact ⟨ret_bool (by rw [A.out];try rfl),C.out⟩
    have es:(s.toList == u.toList)=false:=by rw [ba_beq];exact decide_eq_false hsu
    have P:=Lh_ hsu;clear hsu;go_wp2_with fail;refine (RBeneath_any s u w4 (by rw [J.out.1];exact HA.out)).mono ?_;rintro e w5 ⟨rfl,F⟩;subst F;cases hsb:belowB s u with
    | true =>
     have A:=Lh_ (show clashB a b=true by unfold clashB;rw [D.out,E.out];simp [hsb]);clear hsb;go_wp2;go_ret;exact ⟨ret_bool (by rw [A.out];try rfl),C.out⟩
    | false =>
     have O:=Lh_ hsb;clear hsb;go_wp2_with fail;refine (RBeneath_any u s w4 (by rw [J.out.2];exact HB.out)).mono ?_;rintro e w5 ⟨rfl,F⟩;subst F;have A:=Lh_ (show clashB a b=belowB u s by unfold clashB;rw [D.out,E.out];have B:=L.out;have Q:=N.out;simp [P.out,O.out,B,Q]);obtain ⟨z,hz⟩:∃ z,belowB u s=z:=⟨_,rfl⟩;rw [hz];have HZ:=Lh_ hz;clear hz;go_wp2;go_ret;exact ⟨ret_bool (by rw [A.out,HZ.out];try rfl),C.out⟩
   have ek:(a.kind == b.kind)=false:=beq_eq_false_iff_ne.2 hkk;have N:=Lh_ (show (decide (a.kind=b.kind) && decide (a.num=b.num))=false by simp [hkk]);clear hkk;by_cases hsu:s=u
   ·
    have es:(s.toList == u.toList)=true:=by rw [ba_beq];exact decide_eq_true hsu
    have A:=Lh_ (show clashB a b=true by unfold clashB;rw [D.out,E.out];simp [hsu]);clear hsu;go_wp2;go_ret;exact ⟨ret_bool (by rw [A.out];try rfl),C.out⟩
   have es:(s.toList == u.toList)=false:=by rw [ba_beq];exact decide_eq_false hsu
   have P:=Lh_ hsu;clear hsu;go_wp2_with fail;refine (RBeneath_any s u w4 (by rw [J.out.1];exact HA.out)).mono ?_;rintro e w5 ⟨rfl,F⟩;subst F;cases hsb:belowB s u with
   | true =>
    have A:=Lh_ (show clashB a b=true by unfold clashB;rw [D.out,E.out];simp [hsb]);clear hsb;go_wp2;go_ret;exact ⟨ret_bool (by rw [A.out];try rfl),C.out⟩
   | false =>
    have O:=Lh_ hsb;clear hsb;go_wp2_with fail;refine (RBeneath_any u s w4 (by rw [J.out.2];exact HB.out)).mono ?_;rintro e w5 ⟨rfl,F⟩;subst F;have A:=Lh_ (show clashB a b=belowB u s by unfold clashB;rw [D.out,E.out];have B:=L.out;have Q:=N.out;simp [P.out,O.out,B,Q]);obtain ⟨z,hz⟩:∃ z,belowB u s=z:=⟨_,rfl⟩;rw [hz];have HZ:=Lh_ hz;clear hz;go_wp2;go_ret;exact ⟨ret_bool (by rw [A.out,HZ.out];try rfl),C.out⟩
set_option maxRecDepth 100000 in
theorem SameAttrs_same (A B:Option Addr) (c d:Nat) (xs:List Attr) (w:World) (b1 b2:Nat) (hx:Sl w b1 A c xs) (hy:Sl w b2 B d xs) :
  Calls Tryz.prog 37 #[.slice A xs.length c,.slice B xs.length d] w fun e w'=>e=.returned (.bool true)∧∃ n,w'=w.drewN n:=by
 have N:=hx.1;have E:=hx.2.1;have O:=hy.1;have F:=hy.2.1;unfold maxLen at E F;have G:=Lh_ hx;have H:=Lh_ hy;clear hx hy;go_enter Tryz.func37,Tryz.ntmps37;go_wp2;go_loopw [5] (fun i wr=>∃ k n:Nat,k≤xs.length∧i=.int .i64 k∧wr=w.drewN n) (fun i _=>xs.length - (intOf i).toNat)
 case atStart=>exact ⟨0,0,Nat.zero_le _,rfl,rfl⟩
 obtain ⟨k,n,P,rfl,rfl⟩:=hrel;by_cases hlt:k<xs.length
 ·
  obtain ⟨L,Q,rfl,_,_,I,C⟩:=G.out.attr hlt
  obtain ⟨M,R,rfl,_,_,J,D⟩:=H.out.attr hlt;have K:(k:Int)<(xs.length:Int):=by omega
  obtain ⟨x,hxx⟩:∃ x,xs[k]'hlt=x:=⟨_,rfl⟩;rw [hxx] at I C J D;clear hxx;go_wp2;go_quiet (fail)
  go_wp2;go_roundw
  case rel=>exact ⟨k+1,_,by omega,by go_num,rfl⟩
  simp [intOf];omega
 have K:¬ (k:Int)<(xs.length:Int):=by omega
 go_wp2;go_ret;exact ⟨rfl,_,rfl⟩
end Go.Cold
