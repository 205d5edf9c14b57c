/-
  The walks of the reference's small functions of chapter 13: Put,without,Octal,Priority,Words,Cut.
-/
import Derived.Test.YtjpoljlgkgmdkaaGreatDoorMVI
import Derived.OrdersIn
set_option linter.unusedSimpArgs false
set_option linter.unusedVariables false
namespace Go.Cold
open Go Go.RowKit Go.Proofs.YtjpoljlgkgmdkaaGreatDoor
open Go.Proofs hiding intOf
theorem posT_stop:∀ {l:List ByteArray} {s:ByteArray} {k:Nat},k≤l.length→(∀ (j:Nat) a,l[j]? = some a→j<k→strLt a s=true)→(∀ a,l[k]? = some a→strLt a s=false)→posT l s=k
 | [],_,k,hk,_,_=>by
  have:k=0:=by simpa using hk
  subst this;rfl
 | x :: r,s,0,_,_,h2=>by
  have:=h2 x rfl;unfold posT;rw [List.takeWhile_cons,this];rfl
 | x :: r,s,k+1,hk,h1,h2=>by
  have B:=h1 0 x rfl (by omega);have A:=posT_stop (l:=r) (s:=s) (k:=k) (by simpa using hk) (fun j a ha hj=>h1 (j+1) a (by simpa using ha) (by omega)) (fun a ha=>h2 a (by simpa using ha));unfold posT at A ⊢;rw [List.takeWhile_cons,B];simp only [if_true,List.length_cons];rw [A]
def LtAll (xs:List ByteArray) (s:ByteArray) (k:Nat):Prop:=∀ (j:Nat) a,xs[j]? = some a→j<k→strLt a s=true
theorem LtAll.step {xs:List ByteArray} {s:ByteArray} {k:Nat} {y:ByteArray} (h:LtAll xs s k) (hy:xs[k]? = some y) (hl:strLt y s=true):LtAll xs s (k+1):=fun j a ha hj=>by
 by_cases e:j=k
 · subst e;rw [hy] at ha;cases ha;exact hl
 exact h j a ha (by omega)
theorem LtAll.pos {xs:List ByteArray} {s:ByteArray} {k:Nat} {y:ByteArray} (h:LtAll xs s k) (hy:xs[k]? = some y) (hl:strLt y s=false):posT xs s=k :=
 posT_stop (by have:=(List.getElem?_eq_some_iff.1 hy).1;omega) h (fun a ha=>by rw [hy] at ha;cases ha;exact hl)
theorem LtAll.end_ {xs:List ByteArray} {s:ByteArray} (h:LtAll xs s xs.length):posT xs s=xs.length:=posT_stop (Nat.le_refl _) h (fun a ha=>by have:=(List.getElem?_eq_some_iff.1 ha).1;omega)
theorem hasT_at {xs:List ByteArray} {s y:ByteArray} {k:Nat} (hp:posT xs s=k) (hy:xs[k]? = some y):hasT xs s=decide (y=s):=by unfold hasT;rw [hp,hy]
theorem hasT_end {xs:List ByteArray} {s:ByteArray} (hp:posT xs s=xs.length):hasT xs s=false:=by unfold hasT;rw [hp,List.getElem?_eq_none (Nat.le_refl _)]
theorem putT_same {xs:List ByteArray} {s:ByteArray} {m:Nat} (h:hasT xs s=true∨m≤xs.length):putT xs s m=xs:=if_pos h
theorem putT_new {xs:List ByteArray} {s:ByteArray} {m k:Nat} (hp:posT xs s=k) (h1:hasT xs s=false) (h2:¬ m≤xs.length):putT xs s m=xs.take k ++ s :: xs.drop k:=by
 unfold putT;rw [if_neg (fun h=>h.elim (fun h=>by rw [h1] at h;cases h) h2),hp]
theorem filt_step {xs acc:List ByteArray} {p:ByteArray→Bool} {k:Nat} {y:ByteArray} (h:acc=(xs.take k).filter p) (hy:xs[k]? = some y):(xs.take (k+1)).filter p=if p y then acc ++ [y] else acc:=by
 rw [List.take_add_one,hy,h];show (_ ++ [y]).filter p=_
 rw [List.filter_append];cases hp:p y with
 | true=>rw [if_pos rfl];simp [hp]
 | false=>rw [if_neg (by decide)];simp [hp]
theorem filt_len {xs acc:List ByteArray} {p:ByteArray→Bool} {k:Nat} (h:acc=(xs.take k).filter p):acc.length≤xs.length:=by
 rw [h];have A:=List.length_filter_le p (xs.take k);have B:(xs.take k).length≤xs.length:=by rw [List.length_take];omega
 omega
theorem empty_data (x:ByteArray):x.toList.isEmpty=x.data.toList.isEmpty:=by
 rw [Bool.eq_iff_iff,List.isEmpty_iff,List.isEmpty_iff];have h:=ba_beq x ByteArray.empty;constructor
 ·
  intro h1
  rw [h1] at h;have A:x=ByteArray.empty:=of_decide_eq_true (by rw [← h];decide +kernel);rw [A];rfl
 intro h1;have A:x=ByteArray.empty:=ba_ext h1;rw [A];decide +kernel
theorem sl_strs {w w1:World} {T:TypeId} {xs:List ByteArray} (h:w1=w.alloc (.cells (xs.map Value.string).toArray T)) (hs:∀ x ∈ xs,x.size≤maxLen) (hl:xs.length≤maxLen):Sl w1 w1.heap.size (some ⟨w.heap.size,0,none⟩) xs.length xs:=by
 subst h;refine ⟨Nat.le_refl _,hl,fun _=>⟨w.heap.size,0,rfl,by simp,fun i x hx=>⟨[.string x],⟨rfl,hs x (List.mem_of_getElem? hx)⟩,fun j u hu=>?_⟩⟩⟩;have A:j=0:=by have:=(List.getElem?_eq_some_iff.1 hu).1;simpa using this
 subst A;obtain rfl:=Option.some.inj hu;rw [World.cell?_alloc_at _ _ _ _ rfl];show (xs.map Value.string).toArray[0+(i * 1+0)]? = _
 rw [show 0+(i * 1+0)=i by omega,List.getElem?_toArray,List.getElem?_map,hx];rfl
theorem words_parts (s:ByteArray):wordsT s=(partsB 32 s).filter fun x=>!x.toList.isEmpty:=by
 rw [parts_map];show _=((Lib.split s.data.toList [32]).map _).filter _
 rw [split_eq,wordsT,List.filter_map];congr 1
 refine List.filter_congr fun x _=>?_
 show (!x.isEmpty) = !(toB x).toList.isEmpty
 rw [empty_data];rfl
theorem parts_small {s x:ByteArray} (h:x ∈ partsB 32 s):x.size≤s.size:=by
 rw [parts_map] at h;obtain ⟨l,B,rfl⟩:=List.mem_map.1 h;have A:l ∈ splitOn 32 s.data.toList:=by rw [← split_eq];exact B
 have:=splitOn_sizes 32 _ _ A;rw [ba_size] at this;exact this
theorem parts_len (s:ByteArray):(partsB 32 s).length≤s.size+1:=by
 rw [parts_map,List.length_map];have h:splitL s.data.toList 32=splitOn 32 s.data.toList:=split_eq 32 _;rw [h];have:=splitOn_count 32 s.data.toList;rw [ba_size] at this;exact this
def OctR (s:ByteArray) (k:Nat) (n:Int):Prop:=s.size≤4→octGo 0 s.data.toList=octGo n (s.data.toList.drop k)∧0≤n∧n<8 ^ k
theorem OctR.step {s:ByteArray} {k:Nat} {n m:Int} {x:UInt8} (h:OctR s k n) (hx:s.data.toList[k]? = some x) (h1:48≤x.toNat) (h2:x.toNat≤55) (hm:(0≤n→n<100000→m=8 * n+((x.toNat:Int) - 48))):OctR s (k+1) m:=fun hs=>by
 obtain ⟨q1,q2,q3⟩:=h hs;have hk:k<s.data.toList.length:=(List.getElem?_eq_some_iff.1 hx).1;rw [ba_size] at hk;have hn:n<4096:=by
  have B:k=0∨k=1∨k=2∨k=3:=by omega
  rcases B with rfl | rfl | rfl | rfl <;> simp at q3 <;> omega
 have A:=hm q2 (by omega);refine ⟨?_,by omega,by rw [Int.pow_succ];omega⟩;have C:s.data.toList.drop k=x :: s.data.toList.drop (k+1):=by
  rw [List.drop_eq_getElem_cons (by rw [ba_size];exact hk)];rw [(List.getElem?_eq_some_iff.1 hx).2]
 rw [q1,C,octGo,if_pos ⟨h1,h2⟩,A]
theorem OctR.bad {s:ByteArray} {k:Nat} {n:Int} {x:UInt8} (h:OctR s k n) (hx:s.data.toList[k]? = some x) (h1:¬ (48≤x.toNat∧x.toNat≤55)):octT s=none:=by
 by_cases hs:s.size≤4
 ·
  obtain ⟨C,-,-⟩:=h hs
  have B:k<s.data.toList.length:=(List.getElem?_eq_some_iff.1 hx).1;have A:s.data.toList.drop k=x :: s.data.toList.drop (k+1):=by
   rw [List.drop_eq_getElem_cons B];rw [(List.getElem?_eq_some_iff.1 hx).2]
  unfold octT;rw [C,A,octGo,if_neg h1]
 exact oct_long (by omega)
theorem OctR.done {s:ByteArray} {k:Nat} {n:Int} (h:OctR s k n) (hk:k=s.size):octT s=if 1≤s.size∧s.size≤4 then some n else none:=by
 by_cases hs:s.size≤4
 ·
  obtain ⟨A,-,-⟩:=h hs
  unfold octT;rw [A,hk,List.drop_eq_nil_of_le (by rw [ba_size];exact Nat.le_refl _),octGo]
 rw [oct_long (by omega),if_neg (fun h=>hs h.2)]
set_option maxRecDepth 100000 in
set_option maxHeartbeats 4000000 in
theorem RPut_any (A:Option Addr) (c:Nat) (xs:List ByteArray) (s:ByteArray) (m:Nat) (N:Nat→Prop) (w:World) (hN:∀ x,N x→x<w.heap.size) (hx:FreeS N w A c xs) (hl:xs.length≤1000) (hs:s.size≤maxLen) (hm:m≤1000) :
  Calls Tryz.prog 104 #[.slice A xs.length c,.string s,.int .i64 (m:Int)] w (SlF N (putT xs s m) w):=by
 have O2:=hx.1;have H2:=hx.2.1;unfold maxLen at H2;have HF:=Lh_ hx;have HX:=Lh_ hx.out;have HB:=Lh_ (Nat.le_refl w.heap.size);have Z0:=Lh_ hN;have O:=Lh_ hl;have HS:=Lh_ hs;have HM:=Lh_ hm;clear hx hN hl hs hm;go_enter Tryz.func104,Tryz.ntmps104;go_wp2_with fail;go_loop [7] (fun i=>∃ k:Nat,k≤xs.length∧i=.int .i64 (k:Int)∧Hid (LtAll xs s k)) (fun i=>xs.length - (intOf i).toNat)
 case atStart=>exact ⟨0,Nat.zero_le _,rfl,Lh_ (fun j a _ h=>by omega)⟩
 obtain ⟨k,hk,rfl,HA⟩:=hrel;by_cases hlt:k<xs.length
 ·
  have i1:(k:Int)<(xs.length:Int):=by omega
  obtain ⟨Y,Z,rfl,G2,cx,X1⟩:=HX.out.str hlt;have P1:xs[k]? = some xs[k]:=List.getElem?_eq_getElem hlt;obtain ⟨y,hy⟩:∃ y,xs[k]=y:=⟨_,rfl⟩;rw [hy] at cx X1 P1;have HY:=Lh_ P1;clear P1 hy X1 G2;cases hl:Op.bytesLess y.toList s.toList with
  | true =>
   have HN:=Lh_ (HA.out.step HY.out hl);go_wp2;go_round
   case rel=>exact ⟨k+1,by omega,by go_num,HN⟩
   simp [intOf];omega
  | false =>
   have HP:=Lh_ (HA.out.pos HY.out hl);have HQ:=Lh_ (hasT_at HP.out HY.out);by_cases he:y=s
   ·
    have p1:(y.toList == s.toList)=true:=by rw [ba_beq];exact decide_eq_true he
    have HH:=Lh_ (show hasT xs s=true by rw [HQ.out];exact decide_eq_true he);clear he;go_wp2;go_ret;exact ⟨Below.refl _ _,(some ⟨Y,Z,none⟩:Option Addr),c,by rw [putT_same (.inl HH.out)];try rfl,by rw [putT_same (.inl HH.out)];exact HF.out⟩
   have p1:(y.toList == s.toList)=false:=by rw [ba_beq];exact decide_eq_false he
   have HH:=Lh_ (show hasT xs s=false by rw [HQ.out];exact decide_eq_false he);clear he;by_cases hmost:m≤xs.length
   ·
    have i2:(m:Int)≤(xs.length:Int):=by omega
    have N0:=Lh_ hmost;clear hmost;go_wp2;go_ret;exact ⟨Below.refl _ _,(some ⟨Y,Z,none⟩:Option Addr),c,by rw [putT_same (.inr N0.out)];try rfl,by rw [putT_same (.inr N0.out)];exact HF.out⟩
   have i2:¬ (m:Int)≤(xs.length:Int):=by omega

   have S0:=Lh_ (putT_new HP.out HH.out hmost);clear hmost HH;have m1:(k:Int)≤(xs.length:Int):=by omega
   have m2:(k:Int)≤(c:Int):=by omega
   have m3:k≤c:=by omega
   go_upto_region 6 with fail
   refine wp_region_held_drew (S:=fun w'=>w'=w') (by kernel_rfl) rfl (fun hS0=>?_);obtain ⟨wd,hwd⟩:∃ z,World.drew w=z:=⟨_,rfl⟩;rw [hwd] at hS0 ⊢;have J:Below w.heap.size w wd:=by rw [← hwd];exact below_drewN_self _ _ 1
   clear hwd hS0;have F:=Lh_ J;clear J;refine tk1 0 41 (.slice (some ⟨Y,Z,none⟩:Option Addr) xs.length c) rfl (fun w' hS=>by go_simp) (by trivial) ?_;try simp only [zP,zA,zB,zC]
   refine tk1 1 42 (.int .i64 k) rfl (fun w' hS=>by go_simp) (by trivial) ?_;try simp only [zP,zA,zB,zC]
   refine tk1 2 43 (.slice (some ⟨Y,Z,none⟩:Option Addr) (k) c) rfl (fun w' hS=>by (rw [← sliced_take (A:=(some ⟨Y,Z,none⟩:Option Addr)) (c:=c) (m:=k) (s:=1)];go_simp)) (by trivial) ?_;try simp only [zP,zA,zB,zC]
   refine tk1 4 45 (.string s) rfl (fun w' hS=>by go_simp) (by trivial) ?_;try simp only [zP,zA,zB,zC]
   refine tk1 7 48 (.slice (some ⟨Y,Z,none⟩:Option Addr) xs.length c) rfl (fun w' hS=>by go_simp) (by trivial) ?_;try simp only [zP,zA,zB,zC]
   refine tk1 8 49 (.int .i64 k) rfl (fun w' hS=>by go_simp) (by trivial) ?_;try simp only [zP,zA,zB,zC]
   obtain ⟨Ad,hAd⟩:∃ z,(if c=k then (some ⟨Y,Z,none⟩:Option Addr) else (some ⟨Y,Z,none⟩:Option Addr).map (·.add (k * 1)))=z:=⟨_,rfl⟩;have A0:=Lh_ hAd;clear hAd;refine tk1 9 50 (.slice Ad (xs.length - k) (c - k)) rfl (fun w' hS=>by (rw [show (Value.slice Ad (xs.length - k) (c - k))=sliced (some ⟨Y,Z,none⟩:Option Addr) (k) xs.length c 1 by unfold sliced;rw [A0.out]];go_simp)) (by trivial) ?_;try simp only [zP,zA,zB,zC]
   have I:=Lh_ (show (xs.take (k)).length=k by rw [List.length_take];omega);have M:=Lh_ (show (xs.drop (k)).length=xs.length - k from List.length_drop);have U:=Lh_ (show SlS wd (fun b=>b<w.heap.size) (some ⟨Y,Z,none⟩:Option Addr) c xs from SlS_iff.1 (HX.out.keep (F.out.mono HB.out)));have H:=Lh_ (show w.heap.size≤wd.heap.size from Nat.le_trans HB.out F.out.size);refine wpAnyH_ready (rs:=[3,5]) (by kernel_rfl) (by simp) ?_;refine AllReadyH.cons (o:=⟨some 44,.call ⟨_,_,_⟩,_,_,_,_⟩) rfl (fun K hK=>?_) (AllReadyH.cons (o:=⟨some 46,.buildSlice _ _ _,_,_,_,_⟩) rfl (fun K hK=>?_) (AllReadyH.nil))
   ·
    have G:SlS wd (fun b=>(fun b=>b<w.heap.size) b∧b<wd.heap.size∧(.slice none 0 0:Value).ownBlock≠some b) (some ⟨Y,Z,none⟩:Option Addr) c (xs.take (k)):=(U.out.take_ (by omega)).mono (fun b hb=>⟨hb,by have:=H.out;have:=(Below.refl wd.heap.size wd).size;have:b<w.heap.size:=hb;omega,fun h=>by cases h⟩) (fun b o u hb hu=>((Below.refl wd.heap.size wd).cell (p:=⟨b,o,none⟩) (Nat.lt_of_lt_of_le hb H.out)).trans hu);refine step_app rfl _ _ rfl (.slice none 0 0) (.slice (some ⟨Y,Z,none⟩:Option Addr) (xs.take (k)).length c) (by simp [Act.eval,Act.put]) (by rw [I.out];simp [Act.eval,Act.put]) (run_appL E_txt _ (.slice none 0 0) ([]:List ByteArray) (OwnsS.nil_ (fun b=>b<w.heap.size) _ wd.heap.size _) (some ⟨Y,Z,none⟩:Option Addr) c (xs.take (k)) (.inl G) (by rw [I.out];have:=O.out;simp only [List.length_nil];unfold maxLen;omega) (by rw [I.out];have:=O.out;simp only [List.length_nil];omega) (Below.refl wd.heap.size wd).size) ?_;rintro v1 q1 ⟨B,D,E⟩;rw [List.nil_append] at B;clear G;have C:∀ q,(.slice none 0 0:Value).ownBlock=some q→wd.heap.size≤q:=fun q hq=>by cases hq
    have Q1:=Lh_ (below_own F.out D F.out.size (fun q hq=>Nat.le_trans F.out.size (C q hq)));have I1:=Lh_ (show Below wd.heap.size wd q1 from below_own (Below.refl wd.heap.size wd) D (Below.refl wd.heap.size wd).size C);have U1:=Lh_ B;clear B D E C;refine hK.out _ _ (by trivial) (fun _=>?_);clear hK K;try simp only [zP,zA,zB,zC]
    refine rd1 5 (o:=⟨some 46,.buildSlice _ _ _,_,_,_,_⟩) rfl (fun K hK=>?_);go_simp;obtain ⟨q2,hq2⟩:∃ z,q1.alloc (.cells #[.string s] 9)=z:=⟨_,rfl⟩;have J:Below q1.heap.size q1 q2:=by rw [← hq2];exact (Below.refl _ _).alloc (Nat.le_refl _) _
    have M1:=Lh_ (show BoxL q2 q1.heap.size [.string s] from box_mk hq2);try rw [hq2]
    clear hq2;have T0:=Lh_ (show Below wd.heap.size wd q2 from (I1.out).trans (J.mono I1.out.size));have G1:=Lh_ (U1.out.below J);have A1:=tb_ Q1 J;clear J;refine hK.out _ _ (by trivial) (fun _=>?_);clear hK K;try simp only [zP,zA,zB,zC]
    refine rd1 6 (o:=⟨some 47,.call ⟨_,_,_⟩,_,_,_,_⟩) rfl (fun K hK=>?_);refine step_app rfl _ _ rfl v1 (.slice (some ⟨q1.heap.size,0,none⟩) 1 1) (by simp [Act.eval,Act.put]) (by simp [Act.eval,Act.put]) (run_app1 E_txt _ v1 (xs.take (k)) G1.out q1.heap.size s [.string s] M1.out.1 ⟨rfl,HS.out⟩ (by rw [I.out];have:=O.out;unfold maxLen;omega) (by rw [I.out];have:=O.out;omega) T0.out.size) ?_;rintro v2 q3 ⟨B,D,E⟩;have C:∀ q,(v1:Value).ownBlock=some q→wd.heap.size≤q:=fun q hq=>(G1.out.lt q hq).1
    have B1:=Lh_ (below_own A1.out D A1.out.size (fun q hq=>Nat.le_trans F.out.size (C q hq)));have V:=Lh_ (show Below wd.heap.size wd q3 from below_own T0.out D T0.out.size C);have Q0:=Lh_ B;clear B D E C;refine hK.out _ _ (by trivial) (fun _=>?_);clear hK K;try simp only [zP,zA,zB,zC]
    refine rd1 10 (o:=⟨some 51,.call ⟨_,_,_⟩,_,_,_,_⟩) rfl (fun K hK=>?_);have G:SlS q3 (fun b=>(fun b=>b<w.heap.size) b∧b<q3.heap.size∧v2.ownBlock≠some b) Ad (c - k) (xs.drop (k))∨xs.drop (k)=[]:=by
     rw [← A0.out];exact (SlS.drop_ U.out (m:=k)).imp (fun h=>h.mono (fun b hb=>⟨hb,by have:=H.out;have:=V.out.size;have:b<w.heap.size:=hb;omega,fun e=>by have:=(Q0.out.lt _ e).1;have:=H.out;have:b<w.heap.size:=hb;omega⟩) (fun b o u hb hu=>(V.out.cell (p:=⟨b,o,none⟩) (Nat.lt_of_lt_of_le hb H.out)).trans hu)) id
    have L:(xs.take (k) ++ [s]).length=k+1:=by rw [List.length_append,I.out,List.length_singleton]
    refine step_app rfl _ _ rfl v2 (.slice Ad (xs.drop (k)).length (c - k)) (by simp [Act.eval,Act.put]) (by rw [M.out];simp [Act.eval,Act.put]) (run_appL E_txt _ v2 (xs.take (k) ++ [s]) Q0.out _ (c - k) (xs.drop (k)) G (by rw [L,M.out];have:=O.out;unfold maxLen;omega) (by rw [L,M.out];have:=O.out;omega) V.out.size) ?_;rintro v3 q4 ⟨B,D,E⟩;have C:∀ q,(v2:Value).ownBlock=some q→wd.heap.size≤q:=fun q hq=>(Q0.out.lt q hq).1
    have R1:=Lh_ (below_own B1.out D B1.out.size (fun q hq=>Nat.le_trans F.out.size (C q hq)));have K2:=Lh_ (show Below wd.heap.size wd q4 from below_own V.out D V.out.size C);rw [show xs.take (k) ++ [s] ++ xs.drop (k)=putT xs s m by rw [S0.out,List.append_assoc];rfl] at B;obtain ⟨A9,c9,G0,T⟩:=(own_anyT B:OwnsS (fun _=>False) _ _ _ _ _).free (N:=N) (fun x hx=>⟨Nat.lt_of_lt_of_le (Z0.out x hx) H.out,fun h=>h⟩);subst G0;have D0:=Lh_ T;clear B D E C G L T;refine hK.out _ _ (by trivial) (fun _=>?_);clear hK K;try simp only [zP,zA,zB,zC]
    refine tk1 11 6 (.slice A9 (putT xs s m).length c9) rfl (fun w' hS=>by go_simp) (by trivial) ?_;try simp only [zP,zA,zB,zC]
    refine wpAnyH_done (by kernel_rfl) ?_ _;go_wp2;go_ret;exact ⟨R1.out,A9,c9,rfl,D0.out⟩
   go_simp;obtain ⟨q5,hq5⟩:∃ z,wd.alloc (.cells #[.string s] 9)=z:=⟨_,rfl⟩;have J:Below wd.heap.size wd q5:=by rw [← hq5];exact (Below.refl _ _).alloc (Nat.le_refl _) _
   have N1:=Lh_ (show BoxL q5 wd.heap.size [.string s] from box_mk hq5);try rw [hq5]
   clear hq5;have W:=Lh_ (show Below wd.heap.size wd q5 from ((Below.refl wd.heap.size wd)).trans (J.mono (Below.refl wd.heap.size wd).size));have C1:=tb_ F J;clear J;refine hK.out _ _ (by trivial) (fun _=>?_);clear hK K;try simp only [zP,zA,zB,zC]
   refine rd1 3 (o:=⟨some 44,.call ⟨_,_,_⟩,_,_,_,_⟩) rfl (fun K hK=>?_);have G:SlS q5 (fun b=>(fun b=>b<w.heap.size) b∧b<q5.heap.size∧(.slice none 0 0:Value).ownBlock≠some b) (some ⟨Y,Z,none⟩:Option Addr) c (xs.take (k)):=(U.out.take_ (by omega)).mono (fun b hb=>⟨hb,by have:=H.out;have:=W.out.size;have:b<w.heap.size:=hb;omega,fun h=>by cases h⟩) (fun b o u hb hu=>(W.out.cell (p:=⟨b,o,none⟩) (Nat.lt_of_lt_of_le hb H.out)).trans hu);refine step_app rfl _ _ rfl (.slice none 0 0) (.slice (some ⟨Y,Z,none⟩:Option Addr) (xs.take (k)).length c) (by simp [Act.eval,Act.put]) (by rw [I.out];simp [Act.eval,Act.put]) (run_appL E_txt _ (.slice none 0 0) ([]:List ByteArray) (OwnsS.nil_ (fun b=>b<w.heap.size) _ wd.heap.size _) (some ⟨Y,Z,none⟩:Option Addr) c (xs.take (k)) (.inl G) (by rw [I.out];have:=O.out;simp only [List.length_nil];unfold maxLen;omega) (by rw [I.out];have:=O.out;simp only [List.length_nil];omega) W.out.size) ?_;rintro v1 q6 ⟨B,D,E⟩;rw [List.nil_append] at B;clear G;have C:∀ q,(.slice none 0 0:Value).ownBlock=some q→wd.heap.size≤q:=fun q hq=>by cases hq
   have O1:=Lh_ (N1.out.kept D (fun e=>by cases e));have D1:=Lh_ (below_own C1.out D C1.out.size (fun q hq=>Nat.le_trans F.out.size (C q hq)));have U0:=Lh_ (show Below wd.heap.size wd q6 from below_own W.out D W.out.size C);have H1:=Lh_ B;clear B D E C;refine hK.out _ _ (by trivial) (fun _=>?_);clear hK K;try simp only [zP,zA,zB,zC]
   refine rd1 6 (o:=⟨some 47,.call ⟨_,_,_⟩,_,_,_,_⟩) rfl (fun K hK=>?_);refine step_app rfl _ _ rfl v1 (.slice (some ⟨wd.heap.size,0,none⟩) 1 1) (by simp [Act.eval,Act.put]) (by simp [Act.eval,Act.put]) (run_app1 E_txt _ v1 (xs.take (k)) H1.out wd.heap.size s [.string s] O1.out.1 ⟨rfl,HS.out⟩ (by rw [I.out];have:=O.out;unfold maxLen;omega) (by rw [I.out];have:=O.out;omega) U0.out.size) ?_;rintro v2 q7 ⟨B,D,E⟩;have C:∀ q,(v1:Value).ownBlock=some q→wd.heap.size≤q:=fun q hq=>(H1.out.lt q hq).1
   have E1:=Lh_ (below_own D1.out D D1.out.size (fun q hq=>Nat.le_trans F.out.size (C q hq)));have X:=Lh_ (show Below wd.heap.size wd q7 from below_own U0.out D U0.out.size C);have R0:=Lh_ B;clear B D E C;refine hK.out _ _ (by trivial) (fun _=>?_);clear hK K;try simp only [zP,zA,zB,zC]
   refine rd1 10 (o:=⟨some 51,.call ⟨_,_,_⟩,_,_,_,_⟩) rfl (fun K hK=>?_);have G:SlS q7 (fun b=>(fun b=>b<w.heap.size) b∧b<q7.heap.size∧v2.ownBlock≠some b) Ad (c - k) (xs.drop (k))∨xs.drop (k)=[]:=by
    rw [← A0.out];exact (SlS.drop_ U.out (m:=k)).imp (fun h=>h.mono (fun b hb=>⟨hb,by have:=H.out;have:=X.out.size;have:b<w.heap.size:=hb;omega,fun e=>by have:=(R0.out.lt _ e).1;have:=H.out;have:b<w.heap.size:=hb;omega⟩) (fun b o u hb hu=>(X.out.cell (p:=⟨b,o,none⟩) (Nat.lt_of_lt_of_le hb H.out)).trans hu)) id
   have L:(xs.take (k) ++ [s]).length=k+1:=by rw [List.length_append,I.out,List.length_singleton]
   refine step_app rfl _ _ rfl v2 (.slice Ad (xs.drop (k)).length (c - k)) (by simp [Act.eval,Act.put]) (by rw [M.out];simp [Act.eval,Act.put]) (run_appL E_txt _ v2 (xs.take (k) ++ [s]) R0.out _ (c - k) (xs.drop (k)) G (by rw [L,M.out];have:=O.out;unfold maxLen;omega) (by rw [L,M.out];have:=O.out;omega) X.out.size) ?_;rintro v3 q8 ⟨B,D,E⟩;have C:∀ q,(v2:Value).ownBlock=some q→wd.heap.size≤q:=fun q hq=>(R0.out.lt q hq).1
   have S1:=Lh_ (below_own E1.out D E1.out.size (fun q hq=>Nat.le_trans F.out.size (C q hq)));have L2:=Lh_ (show Below wd.heap.size wd q8 from below_own X.out D X.out.size C);rw [show xs.take (k) ++ [s] ++ xs.drop (k)=putT xs s m by rw [S0.out,List.append_assoc];rfl] at B;obtain ⟨A9,c9,G0,T⟩:=(own_anyT B:OwnsS (fun _=>False) _ _ _ _ _).free (N:=N) (fun x hx=>⟨Nat.lt_of_lt_of_le (Z0.out x hx) H.out,fun h=>h⟩);subst G0;have D0:=Lh_ T;clear B D E C G L T;refine hK.out _ _ (by trivial) (fun _=>?_);clear hK K;try simp only [zP,zA,zB,zC]
   refine tk1 11 6 (.slice A9 (putT xs s m).length c9) rfl (fun w' hS=>by go_simp) (by trivial) ?_;try simp only [zP,zA,zB,zC]
   refine wpAnyH_done (by kernel_rfl) ?_ _;go_wp2;go_ret;exact ⟨S1.out,A9,c9,rfl,D0.out⟩
 have i1:¬ (k:Int)<(xs.length:Int):=by omega
 obtain rfl:k=xs.length:=by omega
 have HP:=Lh_ HA.out.end_;have HH:=Lh_ (hasT_end HP.out);by_cases hmost:m≤xs.length
 ·
  have i2:(m:Int)≤(xs.length:Int):=by omega
  have N0:=Lh_ hmost;clear hmost;go_wp2;go_ret;exact ⟨Below.refl _ _,A,c,by rw [putT_same (.inr N0.out)];try rfl,by rw [putT_same (.inr N0.out)];exact HF.out⟩
 have i2:¬ (m:Int)≤(xs.length:Int):=by omega
 have S0:=Lh_ (putT_new HP.out HH.out hmost);clear hmost HH;have m1:(xs.length:Int)≤(xs.length:Int):=by omega
 have m2:(xs.length:Int)≤(c:Int):=by omega
 have m3:xs.length≤c:=by omega
 go_upto_region 6 with fail
 refine wp_region_held_drew (S:=fun w'=>w'=w') (by kernel_rfl) rfl (fun hS0=>?_);obtain ⟨wd,hwd⟩:∃ z,World.drew w=z:=⟨_,rfl⟩;rw [hwd] at hS0 ⊢;have J:Below w.heap.size w wd:=by rw [← hwd];exact below_drewN_self _ _ 1
 clear hwd hS0;have F:=Lh_ J;clear J;refine tk1 0 41 (.slice A xs.length c) rfl (fun w' hS=>by go_simp) (by trivial) ?_;try simp only [zP,zA,zB,zC]
 refine tk1 1 42 (.int .i64 xs.length) rfl (fun w' hS=>by go_simp) (by trivial) ?_;try simp only [zP,zA,zB,zC]
 refine tk1 2 43 (.slice A (xs.length) c) rfl (fun w' hS=>by (rw [← sliced_take (A:=A) (c:=c) (m:=xs.length) (s:=1)];go_simp)) (by trivial) ?_;try simp only [zP,zA,zB,zC]
 refine tk1 4 45 (.string s) rfl (fun w' hS=>by go_simp) (by trivial) ?_;try simp only [zP,zA,zB,zC]
 refine tk1 7 48 (.slice A xs.length c) rfl (fun w' hS=>by go_simp) (by trivial) ?_;try simp only [zP,zA,zB,zC]
 refine tk1 8 49 (.int .i64 xs.length) rfl (fun w' hS=>by go_simp) (by trivial) ?_;try simp only [zP,zA,zB,zC]
 obtain ⟨Ad,hAd⟩:∃ z,(if c=xs.length then A else A.map (·.add (xs.length * 1)))=z:=⟨_,rfl⟩;have A0:=Lh_ hAd;clear hAd;refine tk1 9 50 (.slice Ad (xs.length - xs.length) (c - xs.length)) rfl (fun w' hS=>by (rw [show (Value.slice Ad (xs.length - xs.length) (c - xs.length))=sliced A (xs.length) xs.length c 1 by unfold sliced;rw [A0.out]];go_simp)) (by trivial) ?_;try simp only [zP,zA,zB,zC]
 have I:=Lh_ (show (xs.take (xs.length)).length=xs.length by rw [List.length_take];omega);have M:=Lh_ (show (xs.drop (xs.length)).length=xs.length - xs.length from List.length_drop);have U:=Lh_ (show SlS wd (fun b=>b<w.heap.size) A c xs from SlS_iff.1 (HX.out.keep (F.out.mono HB.out)));have H:=Lh_ (show w.heap.size≤wd.heap.size from Nat.le_trans HB.out F.out.size);refine wpAnyH_ready (rs:=[3,5]) (by kernel_rfl) (by simp) ?_;refine AllReadyH.cons (o:=⟨some 44,.call ⟨_,_,_⟩,_,_,_,_⟩) rfl (fun K hK=>?_) (AllReadyH.cons (o:=⟨some 46,.buildSlice _ _ _,_,_,_,_⟩) rfl (fun K hK=>?_) (AllReadyH.nil))
 ·
  have G:SlS wd (fun b=>(fun b=>b<w.heap.size) b∧b<wd.heap.size∧(.slice none 0 0:Value).ownBlock≠some b) A c (xs.take (xs.length)):=(U.out.take_ (by omega)).mono (fun b hb=>⟨hb,by have:=H.out;have:=(Below.refl wd.heap.size wd).size;have:b<w.heap.size:=hb;omega,fun h=>by cases h⟩) (fun b o u hb hu=>((Below.refl wd.heap.size wd).cell (p:=⟨b,o,none⟩) (Nat.lt_of_lt_of_le hb H.out)).trans hu);refine step_app rfl _ _ rfl (.slice none 0 0) (.slice A (xs.take (xs.length)).length c) (by simp [Act.eval,Act.put]) (by rw [I.out];simp [Act.eval,Act.put]) (run_appL E_txt _ (.slice none 0 0) ([]:List ByteArray) (OwnsS.nil_ (fun b=>b<w.heap.size) _ wd.heap.size _) A c (xs.take (xs.length)) (.inl G) (by rw [I.out];have:=O.out;simp only [List.length_nil];unfold maxLen;omega) (by rw [I.out];have:=O.out;simp only [List.length_nil];omega) (Below.refl wd.heap.size wd).size) ?_;rintro v1 q9 ⟨B,D,E⟩;rw [List.nil_append] at B;clear G;have C:∀ q,(.slice none 0 0:Value).ownBlock=some q→wd.heap.size≤q:=fun q hq=>by cases hq
  have T1:=Lh_ (below_own F.out D F.out.size (fun q hq=>Nat.le_trans F.out.size (C q hq)));have J1:=Lh_ (show Below wd.heap.size wd q9 from below_own (Below.refl wd.heap.size wd) D (Below.refl wd.heap.size wd).size C);have V1:=Lh_ B;clear B D E C;refine hK.out _ _ (by trivial) (fun _=>?_);clear hK K;try simp only [zP,zA,zB,zC]
  refine rd1 5 (o:=⟨some 46,.buildSlice _ _ _,_,_,_,_⟩) rfl (fun K hK=>?_);go_simp;obtain ⟨q10,hq10⟩:∃ z,q9.alloc (.cells #[.string s] 9)=z:=⟨_,rfl⟩;have J:Below q9.heap.size q9 q10:=by rw [← hq10];exact (Below.refl _ _).alloc (Nat.le_refl _) _
  have W0:=Lh_ (show BoxL q10 q9.heap.size [.string s] from box_mk hq10);try rw [hq10]
  clear hq10;have E0:=Lh_ (show Below wd.heap.size wd q10 from (J1.out).trans (J.mono J1.out.size));have O0:=Lh_ (V1.out.below J);have I0:=tb_ T1 J;clear J;refine hK.out _ _ (by trivial) (fun _=>?_);clear hK K;try simp only [zP,zA,zB,zC]
  refine rd1 6 (o:=⟨some 47,.call ⟨_,_,_⟩,_,_,_,_⟩) rfl (fun K hK=>?_);refine step_app rfl _ _ rfl v1 (.slice (some ⟨q9.heap.size,0,none⟩) 1 1) (by simp [Act.eval,Act.put]) (by simp [Act.eval,Act.put]) (run_app1 E_txt _ v1 (xs.take (xs.length)) O0.out q9.heap.size s [.string s] W0.out.1 ⟨rfl,HS.out⟩ (by rw [I.out];have:=O.out;unfold maxLen;omega) (by rw [I.out];have:=O.out;omega) E0.out.size) ?_;rintro v2 q11 ⟨B,D,E⟩;have C:∀ q,(v1:Value).ownBlock=some q→wd.heap.size≤q:=fun q hq=>(O0.out.lt q hq).1
  have J0:=Lh_ (below_own I0.out D I0.out.size (fun q hq=>Nat.le_trans F.out.size (C q hq)));have P:=Lh_ (show Below wd.heap.size wd q11 from below_own E0.out D E0.out.size C);have B0:=Lh_ B;clear B D E C;refine hK.out _ _ (by trivial) (fun _=>?_);clear hK K;try simp only [zP,zA,zB,zC]
  refine rd1 10 (o:=⟨some 51,.call ⟨_,_,_⟩,_,_,_,_⟩) rfl (fun K hK=>?_);have G:SlS q11 (fun b=>(fun b=>b<w.heap.size) b∧b<q11.heap.size∧v2.ownBlock≠some b) Ad (c - xs.length) (xs.drop (xs.length))∨xs.drop (xs.length)=[]:=by
   rw [← A0.out];exact (SlS.drop_ U.out (m:=xs.length)).imp (fun h=>h.mono (fun b hb=>⟨hb,by have:=H.out;have:=P.out.size;have:b<w.heap.size:=hb;omega,fun e=>by have:=(B0.out.lt _ e).1;have:=H.out;have:b<w.heap.size:=hb;omega⟩) (fun b o u hb hu=>(P.out.cell (p:=⟨b,o,none⟩) (Nat.lt_of_lt_of_le hb H.out)).trans hu)) id
  have L:(xs.take (xs.length) ++ [s]).length=xs.length+1:=by rw [List.length_append,I.out,List.length_singleton]
  refine step_app rfl _ _ rfl v2 (.slice Ad (xs.drop (xs.length)).length (c - xs.length)) (by simp [Act.eval,Act.put]) (by rw [M.out];simp [Act.eval,Act.put]) (run_appL E_txt _ v2 (xs.take (xs.length) ++ [s]) B0.out _ (c - xs.length) (xs.drop (xs.length)) G (by rw [L,M.out];have:=O.out;unfold maxLen;omega) (by rw [L,M.out];have:=O.out;omega) P.out.size) ?_;rintro v3 q12 ⟨B,D,E⟩;have C:∀ q,(v2:Value).ownBlock=some q→wd.heap.size≤q:=fun q hq=>(B0.out.lt q hq).1
  have K1:=Lh_ (below_own J0.out D J0.out.size (fun q hq=>Nat.le_trans F.out.size (C q hq)));have C2:=Lh_ (show Below wd.heap.size wd q12 from below_own P.out D P.out.size C);rw [show xs.take (xs.length) ++ [s] ++ xs.drop (xs.length)=putT xs s m by rw [S0.out,List.append_assoc];rfl] at B;obtain ⟨A9,c9,G0,T⟩:=(own_anyT B:OwnsS (fun _=>False) _ _ _ _ _).free (N:=N) (fun x hx=>⟨Nat.lt_of_lt_of_le (Z0.out x hx) H.out,fun h=>h⟩);subst G0;have D0:=Lh_ T;clear B D E C G L T;refine hK.out _ _ (by trivial) (fun _=>?_);clear hK K;try simp only [zP,zA,zB,zC]
  refine tk1 11 6 (.slice A9 (putT xs s m).length c9) rfl (fun w' hS=>by go_simp) (by trivial) ?_;try simp only [zP,zA,zB,zC]
  refine wpAnyH_done (by kernel_rfl) ?_ _;go_wp2;go_ret;exact ⟨K1.out,A9,c9,rfl,D0.out⟩
 go_simp;obtain ⟨q13,hq13⟩:∃ z,wd.alloc (.cells #[.string s] 9)=z:=⟨_,rfl⟩;have J:Below wd.heap.size wd q13:=by rw [← hq13];exact (Below.refl _ _).alloc (Nat.le_refl _) _
 have X0:=Lh_ (show BoxL q13 wd.heap.size [.string s] from box_mk hq13);try rw [hq13]
 clear hq13;have Q:=Lh_ (show Below wd.heap.size wd q13 from ((Below.refl wd.heap.size wd)).trans (J.mono (Below.refl wd.heap.size wd).size));have K0:=tb_ F J;clear J;refine hK.out _ _ (by trivial) (fun _=>?_);clear hK K;try simp only [zP,zA,zB,zC]
 refine rd1 3 (o:=⟨some 44,.call ⟨_,_,_⟩,_,_,_,_⟩) rfl (fun K hK=>?_);have G:SlS q13 (fun b=>(fun b=>b<w.heap.size) b∧b<q13.heap.size∧(.slice none 0 0:Value).ownBlock≠some b) A c (xs.take (xs.length)):=(U.out.take_ (by omega)).mono (fun b hb=>⟨hb,by have:=H.out;have:=Q.out.size;have:b<w.heap.size:=hb;omega,fun h=>by cases h⟩) (fun b o u hb hu=>(Q.out.cell (p:=⟨b,o,none⟩) (Nat.lt_of_lt_of_le hb H.out)).trans hu);refine step_app rfl _ _ rfl (.slice none 0 0) (.slice A (xs.take (xs.length)).length c) (by simp [Act.eval,Act.put]) (by rw [I.out];simp [Act.eval,Act.put]) (run_appL E_txt _ (.slice none 0 0) ([]:List ByteArray) (OwnsS.nil_ (fun b=>b<w.heap.size) _ wd.heap.size _) A c (xs.take (xs.length)) (.inl G) (by rw [I.out];have:=O.out;simp only [List.length_nil];unfold maxLen;omega) (by rw [I.out];have:=O.out;simp only [List.length_nil];omega) Q.out.size) ?_;rintro v1 q14 ⟨B,D,E⟩;rw [List.nil_append] at B;clear G;have C:∀ q,(.slice none 0 0:Value).ownBlock=some q→wd.heap.size≤q:=fun q hq=>by cases hq
 have Y0:=Lh_ (X0.out.kept D (fun e=>by cases e));have L0:=Lh_ (below_own K0.out D K0.out.size (fun q hq=>Nat.le_trans F.out.size (C q hq)));have F0:=Lh_ (show Below wd.heap.size wd q14 from below_own Q.out D Q.out.size C);have P0:=Lh_ B;clear B D E C;refine hK.out _ _ (by trivial) (fun _=>?_);clear hK K;try simp only [zP,zA,zB,zC]
 refine rd1 6 (o:=⟨some 47,.call ⟨_,_,_⟩,_,_,_,_⟩) rfl (fun K hK=>?_);refine step_app rfl _ _ rfl v1 (.slice (some ⟨wd.heap.size,0,none⟩) 1 1) (by simp [Act.eval,Act.put]) (by simp [Act.eval,Act.put]) (run_app1 E_txt _ v1 (xs.take (xs.length)) P0.out wd.heap.size s [.string s] Y0.out.1 ⟨rfl,HS.out⟩ (by rw [I.out];have:=O.out;unfold maxLen;omega) (by rw [I.out];have:=O.out;omega) F0.out.size) ?_;rintro v2 q15 ⟨B,D,E⟩;have C:∀ q,(v1:Value).ownBlock=some q→wd.heap.size≤q:=fun q hq=>(P0.out.lt q hq).1
 have M0:=Lh_ (below_own L0.out D L0.out.size (fun q hq=>Nat.le_trans F.out.size (C q hq)));have R:=Lh_ (show Below wd.heap.size wd q15 from below_own F0.out D F0.out.size C);have C0:=Lh_ B;clear B D E C;refine hK.out _ _ (by trivial) (fun _=>?_);clear hK K;try simp only [zP,zA,zB,zC]
 refine rd1 10 (o:=⟨some 51,.call ⟨_,_,_⟩,_,_,_,_⟩) rfl (fun K hK=>?_);have G:SlS q15 (fun b=>(fun b=>b<w.heap.size) b∧b<q15.heap.size∧v2.ownBlock≠some b) Ad (c - xs.length) (xs.drop (xs.length))∨xs.drop (xs.length)=[]:=by
  rw [← A0.out];exact (SlS.drop_ U.out (m:=xs.length)).imp (fun h=>h.mono (fun b hb=>⟨hb,by have:=H.out;have:=R.out.size;have:b<w.heap.size:=hb;omega,fun e=>by have:=(C0.out.lt _ e).1;have:=H.out;have:b<w.heap.size:=hb;omega⟩) (fun b o u hb hu=>(R.out.cell (p:=⟨b,o,none⟩) (Nat.lt_of_lt_of_le hb H.out)).trans hu)) id
 have L:(xs.take (xs.length) ++ [s]).length=xs.length+1:=by rw [List.length_append,I.out,List.length_singleton]
 refine step_app rfl _ _ rfl v2 (.slice Ad (xs.drop (xs.length)).length (c - xs.length)) (by simp [Act.eval,Act.put]) (by rw [M.out];simp [Act.eval,Act.put]) (run_appL E_txt _ v2 (xs.take (xs.length) ++ [s]) C0.out _ (c - xs.length) (xs.drop (xs.length)) G (by rw [L,M.out];have:=O.out;unfold maxLen;omega) (by rw [L,M.out];have:=O.out;omega) R.out.size) ?_;rintro v3 q16 ⟨B,D,E⟩;have C:∀ q,(v2:Value).ownBlock=some q→wd.heap.size≤q:=fun q hq=>(C0.out.lt q hq).1
 have L1:=Lh_ (below_own M0.out D M0.out.size (fun q hq=>Nat.le_trans F.out.size (C q hq)));have D2:=Lh_ (show Below wd.heap.size wd q16 from below_own R.out D R.out.size C);rw [show xs.take (xs.length) ++ [s] ++ xs.drop (xs.length)=putT xs s m by rw [S0.out,List.append_assoc];rfl] at B;obtain ⟨A9,c9,G0,T⟩:=(own_anyT B:OwnsS (fun _=>False) _ _ _ _ _).free (N:=N) (fun x hx=>⟨Nat.lt_of_lt_of_le (Z0.out x hx) H.out,fun h=>h⟩);subst G0;have D0:=Lh_ T;clear B D E C G L T;refine hK.out _ _ (by trivial) (fun _=>?_);clear hK K;try simp only [zP,zA,zB,zC]
 refine tk1 11 6 (.slice A9 (putT xs s m).length c9) rfl (fun w' hS=>by go_simp) (by trivial) ?_;try simp only [zP,zA,zB,zC]
 refine wpAnyH_done (by kernel_rfl) ?_ _;go_wp2;go_ret;exact ⟨L1.out,A9,c9,rfl,D0.out⟩
set_option maxRecDepth 100000 in
set_option maxHeartbeats 4000000 in
theorem RWithout_any (A:Option Addr) (c:Nat) (xs:List ByteArray) (s:ByteArray) (N:Nat→Prop) (w:World) (hN:∀ x,N x→x<w.heap.size) (hx:FreeS N w A c xs) (hl:xs.length≤1000000) :
  Calls Tryz.prog 105 #[.slice A xs.length c,.string s] w (SlF N (withoutT xs s) w):=by
 have H0:=hx.1;have A0:=hx.2.1;unfold maxLen at A0;have HX:=Lh_ hx.out;have HB:=Lh_ (Nat.le_refl w.heap.size);have U:=Lh_ hN;have R:=Lh_ hl;clear hx hN hl;go_enter Tryz.func105,Tryz.ntmps105;go_wp2_with fail;go_loopw [5,6] (fun v i wr=>∃ (k:Nat) (B:List ByteArray),k≤xs.length∧i=.int .i64 (k:Int)∧Hid (B=(xs.take k).filter (fun x=>decide (x≠s)))∧Hid (OwnsS (fun _=>False) wr w.heap.size 9 v B)∧Hid (Below w.heap.size w wr)) (fun _ i _=>xs.length - (intOf i).toNat)
 case atStart=>exact ⟨0,[],Nat.zero_le _,rfl,rfl,OwnsS.nil_ _ _ _ _,Below.refl _ _⟩
 obtain ⟨k,B,hk,rfl,M,V,C⟩:=hrel;have B0:=R.out;by_cases hlt:k<xs.length
 ·
  have i1:(k:Int)<(xs.length:Int):=by omega
  have D:=Lh_ hlt;have Y:=Lh_ (HX.out.keep (C.out.mono HB.out));obtain ⟨b3,o3,rfl,Z,cx,H⟩:=Y.out.str hlt;have I:xs[k]? = some (xs[k]'hlt):=List.getElem?_eq_getElem hlt;obtain ⟨y,hy⟩:∃ y,xs[k]'hlt=y:=⟨_,rfl⟩;rw [hy] at cx H I;have HY:=Lh_ I;have X:=Lh_ H;have L:=Lh_ (filt_step M.out HY.out);clear I hy H Z;by_cases he:y=s
  ·
   have p1:(y.toList == s.toList)=true:=by rw [ba_beq];exact decide_eq_true he
   have S:=Lh_ (show B=(xs.take (k+1)).filter (fun x=>decide (x≠s)) by rw [L.out,if_neg (by simp [he])]);clear he;go_wp2;go_roundw
   case rel=>exact ⟨k+1,B,D.out,by go_num,S,V,C⟩
   have:=D.out;simp [intOf];omega
  have p1:(y.toList == s.toList)=false:=by rw [ba_beq];exact decide_eq_false he
  have S:=Lh_ (show B ++ [y]=(xs.take (k+1)).filter (fun x=>decide (x≠s)) by rw [L.out,if_pos (by simpa using he)]);clear he;go_upto_region 6 with fail
  obtain ⟨wa,hwa⟩:∃ z,wr.alloc (.cells #[.string y] 9)=z:=⟨_,rfl⟩;have G:Below wr.heap.size wr wa:=by rw [← hwa];exact (Below.refl _ _).alloc (Nat.le_refl _) _
  have P:=Lh_ (lit_cells hwa (l:=[.string y]) rfl);have F:=tb_ C G;have K:=Lh_ (V.out.below G);clear G;have E:=filt_len M.out;have J:=Lh_ E;clear E;go_wp2_with (at_builtin;go_must (refine wpList_app1 E_txt rfl _ _ rfl (u5) _ rfl K.out wr.heap.size rfl y [.string y] P.out ⟨rfl,X.out⟩ (by have:=J.out;have:=R.out;unfold maxLen;omega) (by have:=J.out;have:=R.out;omega) F.out.size ?_);intro v3 w2 hown_ hgrow_ hnew_;have W:=Lh_ hown_;have Q:=Lh_ hgrow_;clear hown_ hgrow_ hnew_);have O:=Lh_ (below_own F.out Q.out F.out.size (fun q hq=>(K.out.lt q hq).1));go_roundw
  case rel=>exact ⟨k+1,B ++ [y],D.out,by go_num,S,W,O⟩
  have:=D.out;simp [intOf];omega
 have i1:¬ (k:Int)<(xs.length:Int):=by omega
 obtain rfl:k=xs.length:=by omega
 have HE:=Lh_ (show B=xs.filter (fun x=>decide (x≠s)) by rw [M.out,List.take_length]);go_wp2;go_ret;exact SlF.of_own (T:=9) (N:=N) C.out rfl (by show OwnsS (fun _=>False) _ w.heap.size 9 _ (withoutT xs s);unfold withoutT;rw [← HE.out];exact V.out) U.out
theorem ws_len (s:ByteArray):(partsB 32 s).length=Lib.countB s ⟨#[32]⟩+1:=Lib.splitB_all ⟨#[32]⟩ (by show 1≤1;omega) 0 _ s rfl
set_option maxRecDepth 100000 in
set_option maxHeartbeats 4000000 in
theorem RWords_any (s:ByteArray) (N:Nat→Prop) (w:World) (hN:∀ x,N x→x<w.heap.size) (hs:s.size≤100000) (hok:Ok w) :
  Calls Tryz.prog 106 #[.string s] w (SlF N (wordsT s) w):=by
 have V:=Lh_ hs;have F0:=Lh_ hok;have C0:=Lh_ hN;clear hs hok hN;have J:=fun x hx=>parts_small (s:=s) (x:=x) hx
 have I:=parts_len s;obtain ⟨ps,hps⟩:∃ z,partsB 32 s=z:=⟨_,rfl⟩;have R:=Lh_ hps;rw [hps] at J I;have G0:=Lh_ J;have P:=Lh_ I;clear hps J I;go_enter Tryz.func106,Tryz.ntmps106;have C:Calls Tryz.prog 42 #[.string s,.string ⟨#[32]⟩] w fun e w'=>e=.returned (.slice (some ⟨w.heap.size,0,none⟩) ps.length ps.length)∧w'=w.alloc (.cells (ps.map Value.string).toArray 9):=by
  obtain ⟨mm,hm⟩:=F0.out;rw [← R.out,show (partsB 32 s).length=Lib.countB s ⟨#[32]⟩+1 from ws_len s];exact Tryz.strings_Split s ⟨#[32]⟩ mm w (by have:=V.out;omega) hm (by show 1≤1;omega)
 go_wp2_with fail;refine C.mono ?_;rintro e w1 ⟨rfl,L⟩;have U:Below w.heap.size w w1:=by rw [L];exact (Below.refl _ _).alloc (Nat.le_refl _) _
 have HX:=Lh_ (show Sl w1 w1.heap.size (some ⟨w.heap.size,0,none⟩) ps.length ps from sl_strs L (fun x hx=>by have:=G0.out x hx;have:=V.out;unfold maxLen;omega) (by have:=P.out;have:=V.out;unfold maxLen;omega));have B:=Lh_ U;have HL:=Lh_ (show ps.length≤1000000 by have:=P.out;have:=V.out;omega);clear U L C;go_wp2_with fail;go_loopw [4,5] (fun v i wr=>∃ (k:Nat) (A:List ByteArray),k≤ps.length∧i=.int .i64 (k:Int)∧Hid (A=(ps.take k).filter (fun x=>!x.toList.isEmpty))∧Hid (OwnsS (fun _=>False) wr w1.heap.size 9 v A)∧Hid (Below w1.heap.size w1 wr)) (fun _ i _=>ps.length - (intOf i).toNat)
 case atStart=>exact ⟨0,[],Nat.zero_le _,rfl,rfl,OwnsS.nil_ _ _ _ _,Below.refl _ _⟩
 obtain ⟨k,A,hk,rfl,W,HO,D⟩:=hrel;have M0:=HL.out;by_cases hlt:k<ps.length
 ·
  have i1:(k:Int)<(ps.length:Int):=by omega
  have E:=Lh_ hlt;have I0:=Lh_ ((HX.out.keep D.out));obtain ⟨b3,o3,F,J0,cx,K⟩:=I0.out.str hlt;have M:ps[k]? = some (ps[k]'hlt):=List.getElem?_eq_getElem hlt;obtain ⟨y,hy⟩:∃ y,ps[k]'hlt=y:=⟨_,rfl⟩;rw [hy] at cx K M;have HY:=Lh_ M;have H0:=Lh_ K;have S:=Lh_ (filt_step W.out HY.out);clear M hy K J0;obtain ⟨rfl,rfl⟩:b3=w.heap.size∧o3=0:=by injection F with F;injection F with h1 h2;exact ⟨h1.symm,h2.symm⟩
  clear F;rw [Nat.zero_add] at cx;by_cases he:y.toList.isEmpty=true
  ·
   have p1:(y.toList == [])=true:=by cases hq:y.toList with | nil=>rfl | cons a r=>rw [hq] at he;cases he
   have p2:(y.toList == (⟨#[]⟩:ByteArray).toList)=true:=by rw [show (⟨#[]⟩:ByteArray).toList=[] by decide +kernel];exact p1
   have HN:=Lh_ (show A=(ps.take (k+1)).filter (fun x=>!x.toList.isEmpty) by rw [S.out,if_neg (by rw [he];decide)]);clear he;go_wp2;go_roundw
   case rel=>exact ⟨k+1,A,E.out,by go_num,HN,HO,D⟩
   have:=E.out;simp [intOf];omega
  have p1:(y.toList == [])=false:=by cases hq:y.toList with | nil=>rw [hq] at he;exact absurd rfl he | cons a r=>rfl
  have p2:(y.toList == (⟨#[]⟩:ByteArray).toList)=false:=by rw [show (⟨#[]⟩:ByteArray).toList=[] by decide +kernel];exact p1
  have HN:=Lh_ (show A ++ [y]=(ps.take (k+1)).filter (fun x=>!x.toList.isEmpty) by rw [S.out,if_pos (by simpa using he)]);clear he;go_upto_region 7 with fail
  obtain ⟨wa,hwa⟩:∃ z,wr.alloc (.cells #[.string y] 9)=z:=⟨_,rfl⟩;have H:Below wr.heap.size wr wa:=by rw [← hwa];exact (Below.refl _ _).alloc (Nat.le_refl _) _
  have Y:=Lh_ (lit_cells hwa (l:=[.string y]) rfl);have B:=tb_ D H;have Q:=Lh_ (HO.out.below H);clear H;have G:=filt_len W.out;have O:=Lh_ G;clear G;go_wp2_with (at_builtin;go_must (refine wpList_app1 E_txt rfl _ _ rfl (u4) _ rfl Q.out wr.heap.size rfl y [.string y] Y.out ⟨rfl,H0.out⟩ (by have:=O.out;have:=HL.out;unfold maxLen;omega) (by have:=O.out;have:=HL.out;omega) B.out.size ?_);intro v3 w2 hown_ hgrow_ hnew_;have E0:=Lh_ hown_;have Z:=Lh_ hgrow_;clear hown_ hgrow_ hnew_);have X:=Lh_ (below_own B.out Z.out B.out.size (fun q hq=>(Q.out.lt q hq).1));go_roundw
  case rel=>exact ⟨k+1,A ++ [y],E.out,by go_num,HN,E0,X⟩
  have:=E.out;simp [intOf];omega
 have i1:¬ (k:Int)<(ps.length:Int):=by omega
 obtain rfl:k=ps.length:=by omega
 have HE:=Lh_ (show A=ps.filter (fun x=>!x.toList.isEmpty) by rw [W.out,List.take_length]);go_wp2;go_ret;exact SlF.of_own (T:=9) (N:=N) (B.out.trans (D.out.mono B.out.size)) rfl (by rw [words_parts,R.out,← HE.out];exact HO.out) (fun x hx=>Nat.lt_of_lt_of_le (C0.out x hx) B.out.size)
theorem RCut_any (s:ByteArray) (w:World) (hs:s.size≤maxLen):Calls Tryz.prog 103 #[.string s] w fun e w'=>e=.returned (.string (cutT s))∧w'=w:=by
 have B:=hs;unfold maxLen at B;clear hs;go_enter Tryz.func103,Tryz.ntmps103;by_cases h:s.size≤256
 ·
  have C:¬ (256:Int)<(s.size:Int):=by omega
  have A:=Lh_ (cut_small h);clear h;go_wp2;go_ret;exact ⟨by rw [A.out];try rfl,by try rfl⟩
 have C:(256:Int)<(s.size:Int):=by omega
 have A:=Lh_ (show cutT s=s.extract 0 256 by unfold cutT;rw [show min s.size 256=256 by omega]);have D:256≤s.size:=by omega
 go_wp2;go_ret;exact ⟨by rw [A.out];try rfl,by try rfl⟩
set_option maxRecDepth 100000 in
set_option maxHeartbeats 4000000 in
theorem ROctal_any (s:ByteArray) (w:World) (hs:s.size≤maxLen) :
  Calls Tryz.prog 108 #[.string s] w fun e w'=>(∃ m,e=.returned (.tuple #[.int .i64 m,.bool (octT s).isSome])∧∀ n,octT s=some n→m=n)∧w'=w:=by
 unfold maxLen at hs;go_enter Tryz.func108,Tryz.ntmps108;go_wp2_with fail;go_loop [4,5] (fun u i=>∃ (k:Nat) (n:Int),k≤s.size∧i=.int .i64 (k:Int)∧u=.int .i64 n∧Hid (OctR s k n)) (fun _ i=>s.size - (intOf i).toNat)
 case atStart=>exact ⟨0,0,Nat.zero_le _,rfl,rfl,fun _=>⟨rfl,by omega,by decide⟩⟩
 obtain ⟨k,n,K,rfl,rfl,D⟩:=hrel;by_cases hlt:k<s.size
 ·
  obtain ⟨x,hx⟩:∃ x:UInt8,s[k]'hlt=x:=⟨_,rfl⟩;have C:s.data.toList[k]? = some x:=by rw [← hx];exact Lib.data_getElem? s k hlt
  have F:=Lh_ C;clear C;have G:x.toNat<256:=x.toNat_lt;by_cases h1:x.toNat<48
  ·
   have B:=Lh_ (D.out.bad F.out (by omega));have E:(x.toNat:Int)<48:=by omega
   go_wp2;go_ret2;exact ⟨⟨0,by rw [B.out];rfl,by rw [B.out];intro n h;cases h⟩,rfl⟩
  by_cases h2:55<x.toNat
  ·
   have B:=Lh_ (D.out.bad F.out (by omega));have E:¬ (x.toNat:Int)<48:=by omega
   have H:(55:Int)<(x.toNat:Int):=by omega
   go_wp2;go_ret2;exact ⟨⟨0,by rw [B.out];rfl,by rw [B.out];intro n h;cases h⟩,rfl⟩
  have E:¬ (x.toNat:Int)<48:=by omega
  have H:¬ (55:Int)<(x.toNat:Int):=by omega
  have J:IntKind.u8.wrap ((x.toNat:Int) - 48)=(x.toNat:Int) - 48:=by simp only [IntKind.wrap,IntKind.signed,IntKind.bits];first | omega | (simp;omega)
  have I:IntKind.i64.wrap ((x.toNat:Int) - 48)=(x.toNat:Int) - 48:=by rw [IntKind.wrap_i64];omega
  go_wp2;go_round
  case rel=>exact ⟨k+1,_,by omega,by go_num,rfl,D.out.step F.out (by omega) (by omega) (fun q1 q2=>by simp only [IntKind.wrap_i64,wrap64];omega)⟩
  simp [intOf];omega
 have B:=Lh_ (D.out.done (by omega));have L:¬ (k:Int)<(s.size:Int):=by omega
 by_cases h1:1≤s.size
 ·
  have E:(1:Int)≤(s.size:Int):=by omega
  by_cases h2:s.size≤4
  ·
   have H:(s.size:Int)≤4:=by omega
   have A:=Lh_ (show octT s=some n by rw [B.out,if_pos ⟨h1,h2⟩]);go_wp2;go_ret2;exact ⟨⟨n,by rw [A.out];rfl,by rw [A.out];intro m h;exact Option.some.inj h⟩,rfl⟩
  have H:¬ (s.size:Int)≤4:=by omega
  have A:=Lh_ (show octT s=none by rw [B.out,if_neg (fun h=>h2 h.2)]);go_wp2;go_ret2;exact ⟨⟨n,by rw [A.out];rfl,by rw [A.out];intro m h;cases h⟩,rfl⟩
 have E:¬ (1:Int)≤(s.size:Int):=by omega
 have A:=Lh_ (show octT s=none by rw [B.out,if_neg (fun h=>h1 h.1)]);go_wp2;go_ret2;exact ⟨⟨n,by rw [A.out];rfl,by rw [A.out];intro m h;cases h⟩,rfl⟩
theorem prio_at {s:ByteArray} {k:Nat} {n:Int} (h:∀ j:Nat,j<k→itoaT ((j:Int) - 1000)≠s) (hk:k<2001) (hn:(k:Int) - 1000=n) (he:itoaT n=s):prioT s=some n:=by
 unfold prioT;rw [List.find?_map];have A:(List.range 2001).find? ((fun n=>decide (itoaT n=s))∘fun (k:Nat)=>(k:Int) - 1000)=some k:=by
  rw [List.find?_eq_some_iff_getElem];refine ⟨by simp [hn,he],k,by simpa using hk,by simp,fun j hj=>?_⟩;simp only [List.getElem_range,Function.comp];simpa using h j hj
 rw [A];exact congrArg some hn
theorem prio_no {s:ByteArray} (h:∀ j:Nat,j<2001→itoaT ((j:Int) - 1000)≠s):prioT s=none:=by
 unfold prioT;rw [List.find?_eq_none];intro x hx;obtain ⟨k,A,rfl⟩:=List.mem_map.1 hx;rw [List.mem_range] at A;simpa using h k A
set_option maxRecDepth 100000 in
set_option maxHeartbeats 4000000 in
theorem RPriority_any (s:ByteArray) (w:World) (h7:Ok7 w) :
  Calls Tryz.prog 109 #[.string s] w fun e w'=>e=.returned (.tuple #[.int .i64 ((prioT s).getD 0),.bool (prioT s).isSome])∧Below w.heap.size w w':=by
 have K:=Lh_ h7;clear h7;obtain ⟨z,hz⟩:∃ z,prioT s=z:=⟨_,rfl⟩;rw [hz];have I:=Lh_ hz;clear hz;go_enter Tryz.func109,Tryz.ntmps109;go_wp2_with fail;go_loopw [4] (fun i wr=>∃ k:Nat,k≤2001∧i=.int .i64 ((k:Int) - 1000)∧Hid (∀ j<k,itoaT ((j:Int) - 1000)≠s)∧Hid (Below w.heap.size w wr)) (fun i _=>(1001 - intOf i).toNat)
 case atStart=>exact ⟨0,by omega,by first | rfl | go_num,Lh_ (fun j hj=>by omega),Below.refl _ _⟩
 obtain ⟨k,P,rfl,F,C⟩:=hrel;obtain ⟨n,hn⟩:∃ n,(k:Int) - 1000=n:=⟨_,rfl⟩;rw [hn];by_cases hlt:k<2001
 ·
  have N:n≤1000:=by omega
  have A:=Lh_ hn;have B:=Lh_ hlt;clear hn hlt;go_wp2_with fail;refine (Itoa_any n wr (K.out.below C.out) (by have:=A.out;have:=B.out;unfold okInt;omega)).mono ?_;rintro e w1 ⟨rfl,E⟩;rw [show (⟨(Lib.itoa n).toArray⟩:ByteArray)=itoaT n from rfl];have D:=tb_ C E;clear E;obtain ⟨t,ht⟩:∃ t,itoaT n=t:=⟨_,rfl⟩;rw [ht];have H:=Lh_ ht;clear ht;by_cases he:t=s
  ·
   have O:(t.toList == s.toList)=true:=by rw [ba_beq];exact decide_eq_true he
   have G:=Lh_ (show z=some n by rw [← I.out];exact prio_at F.out B.out A.out (H.out.trans he));clear he;go_wp2;go_ret2;exact ⟨by rw [G.out];rfl,D.out⟩
  have M:wrap64 (n+1)=n+1:=by have:=A.out;unfold wrap64;omega
  have J:IntKind.i64.wrap (n+1)=n+1:=by have:=A.out;rw [IntKind.wrap_i64];omega
  have O:(t.toList == s.toList)=false:=by rw [ba_beq];exact decide_eq_false he
  have L:=Lh_ (show ∀ j<k+1,itoaT ((j:Int) - 1000)≠s from fun j hj=>by
   by_cases e:j=k
   · subst e;rw [A.out,H.out];exact he
   · exact F.out j (by omega))
  clear he;go_wp2;go_roundw
  case rel=>exact ⟨k+1,by have:=B.out;omega,by have:=A.out;first | (congr 1;omega) | go_num,L,D⟩
  have:=B.out;have:=A.out;simp [intOf];omega
 have N:¬ n≤1000:=by omega
 obtain rfl:k=2001:=by omega
 have G:=Lh_ (show z=none by rw [← I.out];exact prio_no F.out);clear hn hlt;go_wp2;go_ret2;exact ⟨by rw [G.out];rfl,C.out⟩
theorem setD_skip {d:Draft} {k v:ByteArray} (h:baseK k=true∨textB v=false):setD d k v=d:=if_pos h
theorem setD_full {d:Draft} {k v:ByteArray} (h1:¬ (baseK k=true∨textB v=false)) (h2:v.toList.isEmpty=false∧getA d.props k=none∧64≤d.props.length):setD d k v=d:=(if_neg h1).trans (if_pos h2)
theorem setD_sets {d:Draft} {k v:ByteArray} (h1:¬ (baseK k=true∨textB v=false)) (h2:¬ (v.toList.isEmpty=false∧getA d.props k=none∧64≤d.props.length)):setD d k v = { d with props:=setA d.props k v }:=(if_neg h1).trans (if_neg h2)
theorem none_of {α:Type} {o:Option α} (h:o.isSome=false):o=none:=by cases o with | none=>rfl | some _=>cases h
theorem empties {x:ByteArray} {b:Bool} (h:x.toList.isEmpty=b):(x.toList == [])=b∧(x.toList == (⟨#[]⟩:ByteArray).toList)=b:=by
 have A:(x.toList == [])=b:=by rw [← h];cases x.toList <;> rfl
 exact ⟨A,by rw [show (⟨#[]⟩:ByteArray).toList=[] by decide +kernel];exact A⟩
theorem dfr_new {N N':Nat→Prop} {w w':World} {d:Draft} {h:DH} (k:DFr N w d h) (hb:Below w.heap.size w w') (hN:∀ x,N' x→N x∨w.heap.size≤x):DFr N' w' d h :=
 DFr.below (k.more (fun x hx h1=>(hN x h1).elim id (fun h2=>by omega))) hb
set_option maxRecDepth 100000 in
set_option maxHeartbeats 4000000 in
theorem RSet_any (d:Draft) (h:DH) (k v:ByteArray) (N:Nat→Prop) (w:World) (hN:∀ x,N x→x<w.heap.size) (hd:DFr N w d h) (hl:d.props.length≤1000) (hk:k.size≤maxLen) (hv:v.size≤maxLen) :
  Calls Tryz.prog 55 #[.agg #[.slice h.a0 d.props.length h.c0,.slice h.a1 d.tags.length h.c1,.slice h.a2 d.links.length h.c2,.slice h.a3 d.run.length h.c3,.slice h.a4 d.load.length h.c4,.string d.nm,.int .i64 d.prio,.string d.owner,.string d.group,.int .i64 d.mode,.string d.res,.int .i64 d.calls,.int .i64 d.ticks,.slice h.a5 d.closed.length h.c5],.string k,.string v] w (DPost N (setD d k v) w):=by
 have HN:=Lh_ hN;have HK:=Lh_ hk;have HV:=Lh_ hv;have HL:=Lh_ hl;have HD:=Lh_ hd;clear hN hk hv hl hd;have I2:=(zero_of_info (P:=Tryz.prog) (t:=30) info_draft2).1;go_enter Tryz.func55,Tryz.ntmps55;go_upto_region 1 with fail
 obtain ⟨w1,B2,Q1,O1,W1⟩:=bx_ w [.slice h.a0 d.props.length h.c0,.slice h.a1 d.tags.length h.c1,.slice h.a2 d.links.length h.c2,.slice h.a3 d.run.length h.c3,.slice h.a4 d.load.length h.c4,.string d.nm,.int .i64 d.prio,.string d.owner,.string d.group,.int .i64 d.mode,.string d.res,.int .i64 d.calls,.int .i64 d.ticks,.slice h.a5 d.closed.length h.c5] 30;try simp only [B2]
 have A2:=Lh_ Q1;clear B2 Q1;try rw [← O1.out]
 obtain ⟨w2,C2,F1,P1,C⟩:=bx_ w1 [.slice none 0 0,.slice none 0 0,.slice none 0 0,.slice none 0 0,.slice none 0 0,.string ByteArray.empty,.int .i64 0,.string ByteArray.empty,.string ByteArray.empty,.int .i64 0,.string ByteArray.empty,.int .i64 0,.int .i64 0,.slice none 0 0] 30;try simp only [C2]
 have Q:=tb_ A2 F1;have E0:=kb_ W1 F1;clear C2 F1;try rw [← P1.out]
 clear I2;have HZ:=Lh_ (show w.heap.size<w1.heap.size∧w1.heap.size<w2.heap.size by have:=O1.out;have:=P1.out;omega);have M:=Lh_ (show DFr (fun x=>N x∨x=w.heap.size∨x=w1.heap.size) w2 d h from dfr_new HD.out Q.out (fun x hx=>by rcases hx with hx | rfl | rfl;exact .inl hx;exact .inr (Nat.le_refl _);exact .inr (Nat.le_of_lt HZ.out.1)));have A:=E0.out.1 0 _ rfl;go_wp2_with fail;refine (RBKey_any k _).mono ?_;rintro e w9 ⟨rfl,O0⟩;rw [O0];clear O0 w9;obtain ⟨q,hq⟩:∃ z,baseK k=z:=⟨_,rfl⟩;rw [hq];have HQ:=Lh_ hq;clear hq;cases q
 ·
  go_wp2_with fail;refine (RText_any v _ HV.out).mono ?_;rintro e w9 ⟨rfl,O0⟩;rw [← O0];clear O0 w9;obtain ⟨q,hq⟩:∃ z,textB v=z:=⟨_,rfl⟩;rw [hq];have HT:=Lh_ hq;clear hq;cases q
  ·
   clear A;obtain ⟨A,V0,W0,X0,Y0,Z0,A1,B1,C1,D1,F0,G0,H0,I0⟩:=s14_ E0.out.1;obtain ⟨U,V,W,X,Y,Z,A0,B0,C0,D0,D,E,F,G⟩:=s14_ C.out.1;have T:=C.out.2.1;go_wp2;refine bodyPost_ret (v:=.agg #[.slice h.a0 d.props.length h.c0,.slice h.a1 d.tags.length h.c1,.slice h.a2 d.links.length h.c2,.slice h.a3 d.run.length h.c3,.slice h.a4 d.load.length h.c4,.string d.nm,.int .i64 d.prio,.string d.owner,.string d.group,.int .i64 d.mode,.string d.res,.int .i64 d.calls,.int .i64 d.ticks,.slice h.a5 d.closed.length h.c5]) (by simp [results,Tryz.results55,go_sem,U,V,W,X,Y,Z,A0,B0,C0,D0,D,E,F,G,T]) rfl ?_;rw [show setD d k v=d from setD_skip (.inr HT.out)];exact DPost.fin (h:=h) Q.out (Nat.le_of_lt HZ.out.1) (fun _=>.inl) (.inr (.inr rfl)) M.out _ _ _ _ _ _ _ _ _ _ _ _ _ _
  have K1:=Lh_ (show ¬ (baseK k=true∨textB v=false) by rw [HQ.out,HT.out];decide);have S2:=M.out.1.1;have H2:=M.out.1.2.1;unfold maxLen at H2;go_wp2_with fail;refine (RGet_any h.a0 h.c0 d.props k w2 w2.heap.size (Nat.le_refl _) M.out.1.out).mono ?_;rintro e w9 ⟨rfl,O0⟩;rw [O0];clear O0 w9;obtain ⟨og,hog⟩:∃ z,getA d.props k=z:=⟨_,rfl⟩;rw [hog];have HG:=Lh_ hog;clear hog;obtain ⟨sv,hsv⟩:∃ z,og.getD ByteArray.empty=z:=⟨_,rfl⟩;obtain ⟨has,hhas⟩:∃ z,og.isSome=z:=⟨_,rfl⟩;rw [hsv,hhas];have HH:=Lh_ hhas;clear hsv hhas;by_cases hve:v.toList.isEmpty=true
  ·
   obtain ⟨p1,p2⟩:=empties hve;have V1:=Lh_ hve;clear hve;clear A;have A:=E0.out.1 0 _ rfl;have S0:=Lh_ (setD_sets K1.out (d:=d) (by rw [V1.out];rintro ⟨h,-⟩;cases h));go_wp2_with fail;refine (Set_any h.a0 h.c0 d.props k v w2 w2.heap.size (Nat.le_refl _) M.out.1.out (by have:=HL.out;omega) HK.out HV.out).mono ?_;rintro e w3 ⟨K0,v3,rfl,K⟩;clear A;have L1:=tb_ Q K0;have X1:=kb_ E0 K0;have J2:=kb_ C K0;have S1:=Lh_ (M.out.below K0);clear K0;obtain ⟨O,S,G1,N0⟩:=K.free (N:=(fun x=>N x∨x=w.heap.size∨x=w1.heap.size)) (fun x hx=>⟨by have:=HZ.out;rcases hx with h | h | h;(have:=HN.out x h;omega);omega;omega,fun h=>h⟩);subst G1;have R0:=Lh_ N0;clear K N0;have A:=X1.out.1 0 _ rfl;have E1:=X1.out.2.1;go_upto_region 7 with fail
   clear A E1;have B:=grown_one w3 (w.heap.size) 0 (.slice O (setA d.props k v).length S);have H:=X1.out.set_ (j:=0) (by first | (simp;done) | decide) (.slice O (setA d.props k v).length S);obtain ⟨w20,hw20⟩:∃ z,w3.setCell ⟨w.heap.size,0,none⟩ (.slice O (setA d.props k v).length S)=z:=⟨_,rfl⟩;rw [hw20] at B H ⊢;clear hw20;have T0:=Lh_ B.size;have J0:=Lh_ H;have R:=Lh_ (L1.out.grown B L1.out.size (fun q hq=>by have:=Option.some.inj hq;have:=HZ.out;omega));have L:=kg_ J2 B (by have:=HZ.out;omega);have I:=Lh_ (S1.out.grown B (.inl (.inr (.inl rfl))));have J:=Lh_ (R0.out.grown B (.inl (.inr (.inl rfl))));clear B H;have Q0:=Lh_ (show DFr (fun x=>N x∨x=w.heap.size∨x=w1.heap.size) w20 { d with props:=setA d.props k v } (⟨O,S,h.a1,h.c1,h.a2,h.c2,h.a3,h.c3,h.a4,h.c4,h.a5,h.c5⟩:DH) from ⟨J.out,I.out.2⟩);have U0:=Lh_ (show BoxL w20 w.heap.size [.slice O (setA d.props k v).length S,.slice h.a1 d.tags.length h.c1,.slice h.a2 d.links.length h.c2,.slice h.a3 d.run.length h.c3,.slice h.a4 d.load.length h.c4,.string d.nm,.int .i64 d.prio,.string d.owner,.string d.group,.int .i64 d.mode,.string d.res,.int .i64 d.calls,.int .i64 d.ticks,.slice h.a5 d.closed.length h.c5] from J0.out);obtain ⟨A,V0,W0,X0,Y0,Z0,A1,B1,C1,D1,F0,G0,H0,I0⟩:=s14_ U0.out.1;obtain ⟨U,V,W,X,Y,Z,A0,B0,C0,D0,D,E,F,G⟩:=s14_ L.out.1;have T:=L.out.2.1;go_wp2;refine bodyPost_ret (v:=.agg #[.slice O (setA d.props k v).length S,.slice h.a1 d.tags.length h.c1,.slice h.a2 d.links.length h.c2,.slice h.a3 d.run.length h.c3,.slice h.a4 d.load.length h.c4,.string d.nm,.int .i64 d.prio,.string d.owner,.string d.group,.int .i64 d.mode,.string d.res,.int .i64 d.calls,.int .i64 d.ticks,.slice h.a5 d.closed.length h.c5]) (by simp [results,Tryz.results55,go_sem,U,V,W,X,Y,Z,A0,B0,C0,D0,D,E,F,G,T]) rfl ?_;rw [S0.out]
   exact DPost.fin (h:=(⟨O,S,h.a1,h.c1,h.a2,h.c2,h.a3,h.c3,h.a4,h.c4,h.a5,h.c5⟩:DH)) R.out (Nat.le_of_lt HZ.out.1) (fun _=>.inl) (.inr (.inr rfl)) Q0.out _ _ _ _ _ _ _ _ _ _ _ _ _ _
  have H1:v.toList.isEmpty=false:=by simpa using hve
  obtain ⟨p1,p2⟩:=empties H1;have V1:=Lh_ H1;clear hve H1;cases has
  ·
   by_cases h64:64≤d.props.length
   ·
    have i1:(64:Int)≤(d.props.length:Int):=by omega
    have R1:=Lh_ h64;clear h64;clear A;obtain ⟨A,V0,W0,X0,Y0,Z0,A1,B1,C1,D1,F0,G0,H0,I0⟩:=s14_ E0.out.1;obtain ⟨U,V,W,X,Y,Z,A0,B0,C0,D0,D,E,F,G⟩:=s14_ C.out.1;have T:=C.out.2.1;go_wp2;refine bodyPost_ret (v:=.agg #[.slice h.a0 d.props.length h.c0,.slice h.a1 d.tags.length h.c1,.slice h.a2 d.links.length h.c2,.slice h.a3 d.run.length h.c3,.slice h.a4 d.load.length h.c4,.string d.nm,.int .i64 d.prio,.string d.owner,.string d.group,.int .i64 d.mode,.string d.res,.int .i64 d.calls,.int .i64 d.ticks,.slice h.a5 d.closed.length h.c5]) (by simp [results,Tryz.results55,go_sem,U,V,W,X,Y,Z,A0,B0,C0,D0,D,E,F,G,T]) rfl ?_;rw [setD_full K1.out ⟨V1.out,by rw [HG.out];exact none_of HH.out,R1.out⟩];exact DPost.fin (h:=h) Q.out (Nat.le_of_lt HZ.out.1) (fun _=>.inl) (.inr (.inr rfl)) M.out _ _ _ _ _ _ _ _ _ _ _ _ _ _
   have i1:¬ (64:Int)≤(d.props.length:Int):=by omega
   have R1:=Lh_ h64;clear h64;clear A;have A:=E0.out.1 0 _ rfl;have S0:=Lh_ (setD_sets K1.out (d:=d) (by rintro ⟨-,-,h⟩;exact R1.out h));go_wp2_with fail;refine (Set_any h.a0 h.c0 d.props k v w2 w2.heap.size (Nat.le_refl _) M.out.1.out (by have:=HL.out;omega) HK.out HV.out).mono ?_;rintro e w4 ⟨L0,v3,rfl,K⟩;clear A;have M1:=tb_ Q L0;have Y1:=kb_ E0 L0;have K2:=kb_ C L0;have T1:=Lh_ (M.out.below L0);clear L0;obtain ⟨O,S,G1,N0⟩:=K.free (N:=(fun x=>N x∨x=w.heap.size∨x=w1.heap.size)) (fun x hx=>⟨by have:=HZ.out;rcases hx with h | h | h;(have:=HN.out x h;omega);omega;omega,fun h=>h⟩);subst G1;have R0:=Lh_ N0;clear K N0;have A:=Y1.out.1 0 _ rfl;have E1:=Y1.out.2.1;go_upto_region 7 with fail
   clear A E1;have B:=grown_one w4 (w.heap.size) 0 (.slice O (setA d.props k v).length S);have H:=Y1.out.set_ (j:=0) (by first | (simp;done) | decide) (.slice O (setA d.props k v).length S);obtain ⟨w20,hw20⟩:∃ z,w4.setCell ⟨w.heap.size,0,none⟩ (.slice O (setA d.props k v).length S)=z:=⟨_,rfl⟩;rw [hw20] at B H ⊢;clear hw20;have T0:=Lh_ B.size;have J0:=Lh_ H;have R:=Lh_ (M1.out.grown B M1.out.size (fun q hq=>by have:=Option.some.inj hq;have:=HZ.out;omega));have L:=kg_ K2 B (by have:=HZ.out;omega);have I:=Lh_ (T1.out.grown B (.inl (.inr (.inl rfl))));have J:=Lh_ (R0.out.grown B (.inl (.inr (.inl rfl))));clear B H;have Q0:=Lh_ (show DFr (fun x=>N x∨x=w.heap.size∨x=w1.heap.size) w20 { d with props:=setA d.props k v } (⟨O,S,h.a1,h.c1,h.a2,h.c2,h.a3,h.c3,h.a4,h.c4,h.a5,h.c5⟩:DH) from ⟨J.out,I.out.2⟩);have U0:=Lh_ (show BoxL w20 w.heap.size [.slice O (setA d.props k v).length S,.slice h.a1 d.tags.length h.c1,.slice h.a2 d.links.length h.c2,.slice h.a3 d.run.length h.c3,.slice h.a4 d.load.length h.c4,.string d.nm,.int .i64 d.prio,.string d.owner,.string d.group,.int .i64 d.mode,.string d.res,.int .i64 d.calls,.int .i64 d.ticks,.slice h.a5 d.closed.length h.c5] from J0.out);obtain ⟨A,V0,W0,X0,Y0,Z0,A1,B1,C1,D1,F0,G0,H0,I0⟩:=s14_ U0.out.1;obtain ⟨U,V,W,X,Y,Z,A0,B0,C0,D0,D,E,F,G⟩:=s14_ L.out.1;have T:=L.out.2.1;go_wp2;refine bodyPost_ret (v:=.agg #[.slice O (setA d.props k v).length S,.slice h.a1 d.tags.length h.c1,.slice h.a2 d.links.length h.c2,.slice h.a3 d.run.length h.c3,.slice h.a4 d.load.length h.c4,.string d.nm,.int .i64 d.prio,.string d.owner,.string d.group,.int .i64 d.mode,.string d.res,.int .i64 d.calls,.int .i64 d.ticks,.slice h.a5 d.closed.length h.c5]) (by simp [results,Tryz.results55,go_sem,U,V,W,X,Y,Z,A0,B0,C0,D0,D,E,F,G,T]) rfl ?_;rw [S0.out]
   exact DPost.fin (h:=(⟨O,S,h.a1,h.c1,h.a2,h.c2,h.a3,h.c3,h.a4,h.c4,h.a5,h.c5⟩:DH)) R.out (Nat.le_of_lt HZ.out.1) (fun _=>.inl) (.inr (.inr rfl)) Q0.out _ _ _ _ _ _ _ _ _ _ _ _ _ _
  clear A;have A:=E0.out.1 0 _ rfl;have S0:=Lh_ (setD_sets K1.out (d:=d) (by rintro ⟨-,h,-⟩;have:=HH.out;rw [← HG.out,h] at this;cases this));go_wp2_with fail;refine (Set_any h.a0 h.c0 d.props k v w2 w2.heap.size (Nat.le_refl _) M.out.1.out (by have:=HL.out;omega) HK.out HV.out).mono ?_;rintro e w5 ⟨M0,v3,rfl,K⟩;clear A;have N1:=tb_ Q M0;have Z1:=kb_ E0 M0;have L2:=kb_ C M0;have U1:=Lh_ (M.out.below M0);clear M0;obtain ⟨O,S,G1,N0⟩:=K.free (N:=(fun x=>N x∨x=w.heap.size∨x=w1.heap.size)) (fun x hx=>⟨by have:=HZ.out;rcases hx with h | h | h;(have:=HN.out x h;omega);omega;omega,fun h=>h⟩);subst G1;have R0:=Lh_ N0;clear K N0;have A:=Z1.out.1 0 _ rfl;have E1:=Z1.out.2.1;go_upto_region 7 with fail
  clear A E1;have B:=grown_one w5 (w.heap.size) 0 (.slice O (setA d.props k v).length S);have H:=Z1.out.set_ (j:=0) (by first | (simp;done) | decide) (.slice O (setA d.props k v).length S);obtain ⟨w20,hw20⟩:∃ z,w5.setCell ⟨w.heap.size,0,none⟩ (.slice O (setA d.props k v).length S)=z:=⟨_,rfl⟩;rw [hw20] at B H ⊢;clear hw20;have T0:=Lh_ B.size;have J0:=Lh_ H;have R:=Lh_ (N1.out.grown B N1.out.size (fun q hq=>by have:=Option.some.inj hq;have:=HZ.out;omega));have L:=kg_ L2 B (by have:=HZ.out;omega);have I:=Lh_ (U1.out.grown B (.inl (.inr (.inl rfl))));have J:=Lh_ (R0.out.grown B (.inl (.inr (.inl rfl))));clear B H;have Q0:=Lh_ (show DFr (fun x=>N x∨x=w.heap.size∨x=w1.heap.size) w20 { d with props:=setA d.props k v } (⟨O,S,h.a1,h.c1,h.a2,h.c2,h.a3,h.c3,h.a4,h.c4,h.a5,h.c5⟩:DH) from ⟨J.out,I.out.2⟩);have U0:=Lh_ (show BoxL w20 w.heap.size [.slice O (setA d.props k v).length S,.slice h.a1 d.tags.length h.c1,.slice h.a2 d.links.length h.c2,.slice h.a3 d.run.length h.c3,.slice h.a4 d.load.length h.c4,.string d.nm,.int .i64 d.prio,.string d.owner,.string d.group,.int .i64 d.mode,.string d.res,.int .i64 d.calls,.int .i64 d.ticks,.slice h.a5 d.closed.length h.c5] from J0.out);obtain ⟨A,V0,W0,X0,Y0,Z0,A1,B1,C1,D1,F0,G0,H0,I0⟩:=s14_ U0.out.1;obtain ⟨U,V,W,X,Y,Z,A0,B0,C0,D0,D,E,F,G⟩:=s14_ L.out.1;have T:=L.out.2.1;go_wp2;refine bodyPost_ret (v:=.agg #[.slice O (setA d.props k v).length S,.slice h.a1 d.tags.length h.c1,.slice h.a2 d.links.length h.c2,.slice h.a3 d.run.length h.c3,.slice h.a4 d.load.length h.c4,.string d.nm,.int .i64 d.prio,.string d.owner,.string d.group,.int .i64 d.mode,.string d.res,.int .i64 d.calls,.int .i64 d.ticks,.slice h.a5 d.closed.length h.c5]) (by simp [results,Tryz.results55,go_sem,U,V,W,X,Y,Z,A0,B0,C0,D0,D,E,F,G,T]) rfl ?_;rw [S0.out]
  exact DPost.fin (h:=(⟨O,S,h.a1,h.c1,h.a2,h.c2,h.a3,h.c3,h.a4,h.c4,h.a5,h.c5⟩:DH)) R.out (Nat.le_of_lt HZ.out.1) (fun _=>.inl) (.inr (.inr rfl)) Q0.out _ _ _ _ _ _ _ _ _ _ _ _ _ _
 clear A;obtain ⟨A,V0,W0,X0,Y0,Z0,A1,B1,C1,D1,F0,G0,H0,I0⟩:=s14_ E0.out.1;obtain ⟨U,V,W,X,Y,Z,A0,B0,C0,D0,D,E,F,G⟩:=s14_ C.out.1;have T:=C.out.2.1;go_wp2;refine bodyPost_ret (v:=.agg #[.slice h.a0 d.props.length h.c0,.slice h.a1 d.tags.length h.c1,.slice h.a2 d.links.length h.c2,.slice h.a3 d.run.length h.c3,.slice h.a4 d.load.length h.c4,.string d.nm,.int .i64 d.prio,.string d.owner,.string d.group,.int .i64 d.mode,.string d.res,.int .i64 d.calls,.int .i64 d.ticks,.slice h.a5 d.closed.length h.c5]) (by simp [results,Tryz.results55,go_sem,U,V,W,X,Y,Z,A0,B0,C0,D0,D,E,F,G,T]) rfl ?_;rw [show setD d k v=d from setD_skip (.inl HQ.out)];exact DPost.fin (h:=h) Q.out (Nat.le_of_lt HZ.out.1) (fun _=>.inl) (.inr (.inr rfl)) M.out _ _ _ _ _ _ _ _ _ _ _ _ _ _
theorem own_anyA {F F':Nat→Prop} {w:World} {base:Nat} {T:TypeId} {v:Value} {l:List Attr} (h:OwnsS F w base T v l):OwnsS F' w base T v l:=by
 obtain ⟨A,B,C,D⟩:=h;exact ⟨A,B,C,fun i x cs hx hcs=>D i x cs hx hcs⟩
set_option maxRecDepth 100000 in
set_option maxHeartbeats 4000000 in
theorem RBegin_new (A:Option Addr) (c:Nat) (base:List Attr) (N:Nat→Prop) (w:World) (hN:∀ x,N x→x<w.heap.size) (hx:Sl w w.heap.size A c base) (hl:base.length≤1000) :
  Calls Tryz.prog 21 #[.slice A base.length c] w (DPost N (beginD base) w):=by
 have R0:=hx.1;have I0:=hx.2.1;unfold maxLen at I0;have HF:=Lh_ hx;have HL:=Lh_ hl;have HN:=Lh_ hN;clear hx hl hN;have J0:=(zero_of_info (P:=Tryz.prog) (t:=30) info_draft2).1;go_enter Tryz.func21,Tryz.ntmps21;go_upto_region 1 with fail
 obtain ⟨X,B0,I,H,B⟩:=bx_ w [.slice none 0 0,.slice none 0 0,.slice none 0 0,.slice none 0 0,.slice none 0 0,.string ByteArray.empty,.int .i64 0,.string ByteArray.empty,.string ByteArray.empty,.int .i64 0,.string ByteArray.empty,.int .i64 0,.int .i64 0,.slice none 0 0] 30;try simp only [B0]
 have C:=Lh_ I;clear B0 I;try rw [← H.out]
 clear J0;have HS:=Lh_ (show SlS X (fun b=>(fun b=>b<w.heap.size) b∧b<X.heap.size∧(.slice none 0 0:Value).ownBlock≠some b) A c base from (SlS_iff.1 (HF.out.keep C.out)).mono (fun b hb=>⟨hb,Nat.lt_of_lt_of_le hb C.out.size,fun e=>by cases e⟩) (fun _ _ _ _ hu=>hu));obtain ⟨K,L,M,O,Q,R,S,T,U,V,D,E,F,G⟩:=s14_ B.out.1;have J:=B.out.2.1;go_wp2_with (at_builtin;go_must (refine wpList_app rfl _ _ rfl (.slice none 0 0) _ rfl rfl (run_appL E_attr _ _ [] (OwnsS.nil_ (fun b=>b<w.heap.size) X X.heap.size _) A c base (.inl HS.out) (by have:=HL.out;simp;unfold maxLen;omega) (by have:=HL.out;simp;omega) (Nat.le_refl _)) ?_);rintro v2 w2 ⟨A0,Z,-⟩;have G0:=Lh_ A0;have F0:=Lh_ Z;clear A0 Z;obtain ⟨A2,c2,hv,hf⟩:=(own_anyA G0.out:OwnsS (fun _=>False) _ _ _ _ _).free (N:=fun x=>N x∨x=w.heap.size) (fun x hx=>⟨by have:=H.out;rcases hx with h | h;have:=HN.out x h;omega;omega,fun h=>h⟩);subst hv;have E0:=Lh_ hf;clear hf;have W:Below X.heap.size X w2:=below_own (Below.refl _ _) F0.out (Nat.le_refl _) (fun k hk=>by cases hk);have D0:=tb_ C W;have Y:=kb_ B W;clear W K L M O Q R S T U V D E F G J;obtain ⟨K,L,M,O,Q,R,S,T,U,V,D,E,F,G⟩:=s14_ Y.out.1;have J:=Y.out.2.1);have HD:=Lh_ (show DFr (fun x=>N x∨x=w.heap.size) w2 (beginD base) ⟨A2,c2,none,0,none,0,none,0,none,0,none,0⟩ from ⟨E0.out,FreeS.nil_,FreeS.nil_,FreeS.nil_,FreeS.nil_,FreeS.nil_,begin_ok base⟩);try go_wp2
 refine bodyPost_ret (v:=.agg #[.slice A2 base.length c2,.slice none 0 0,.slice none 0 0,.slice none 0 0,.slice none 0 0,.string ⟨#[]⟩,.int .i64 0,.string ⟨#[114,111,111,116]⟩,.string ⟨#[114,111,111,116]⟩,.int .i64 384,.string ⟨#[]⟩,.int .i64 0,.int .i64 0,.slice none 0 0]) (by simp [results,Tryz.results21,go_sem,K,L,M,O,Q,R,S,T,U,V,D,E,F,G,J]) rfl ?_;exact DPost.fin (h:=⟨A2,c2,none,0,none,0,none,0,none,0,none,0⟩) D0.out (Nat.le_refl _) (fun _=>.inl) (.inr rfl) HD.out _ _ _ _ _ _ _ _ _ _ _ _ _ _
section
variable {P:Program} {F:Fence} {n:Nat} {bytes:Nat} {TS:TypeId} {ops:Array Oper} {o:Oper} {a:Act} {Q:Exit→Act→World→Prop} {w:World}
end
theorem attrs_le {d:Dev} (h:checkD d=0):d.attrs.length≤1000000:=by
 rw [checkD_eq] at h;by_cases h1:rangeB d <;> by_cases h2:namedB d <;> by_cases h3:kindB d <;> by_cases h4:numberB d <;> by_cases h5:d.attrs.length≤24 <;> simp_all
 all_goals omega
section
open Go.Shelf
attribute [local go_sem] Oper.semAt_some
end
theorem findD_small {L:List Dev} (hv:VT L) (n:Int):((findD L n).getD zeroD).orig.size≤32:=by
 cases h:findD L n with
 | none=>show (0:Nat)≤32;omega
 | some d=>exact (hv.small d (find_some h).1).1
theorem base_none {L:List Dev} {n:Int} (h:(findD L n).isSome=false):baseL L n=[]:=by
 unfold baseL;cases hf:findD L n with
 | none=>rfl
 | some d=>rw [hf] at h;cases h
theorem strF_small {L:List Dev} (h:VT L) (n:Int):(strF L n).size≤maxLen:=by
 have:=str_size (fun d hd=>(h.small d hd).1) h.size n;unfold maxLen;omega
theorem itoaT_small {n:Int} (h:okI n):(itoaT n).size≤maxLen:=by
 have A:=Go.Lib.itoa_length_le n h.1 h.2;show (Lib.itoa n).toArray.size≤maxLen
 rw [List.size_toArray];unfold maxLen;omega
theorem set_len {l:List Attr} {k v:ByteArray} {m:Nat} (h:l.length≤m):(setA l k v).length≤m+1:=by
 have:=setA_len l k v;omega
theorem base_some {L:List Dev} {n:Int} {d:Dev} (hq:(findD L n).isSome=true) (hd:d=(findD L n).getD zeroD):baseL L n=putAll (baseP (strF L n) d):=by
 unfold baseL;cases hf:findD L n with
 | none=>rw [hf] at hq;cases hq
 | some e=>rw [hf] at hd;rw [show d=e from hd]
set_option maxRecDepth 100000 in
set_option maxHeartbeats 4000000 in
theorem RBase_any (A:Option Addr) (c:Nat) (L:List Dev) (n:Int) (w:World) (B:Nat) (hB:B≤w.heap.size) (hx:Sl w B A c L) (hv:VT L) (hok:Ok7 w) (hko:Ok w) (hn:okI n) :
  Calls Tryz.prog 19 #[.agg #[.slice A L.length c],.int .i64 n] w (SlPost (baseL L n) w):=by
 have Y5:=hx.1;have S5:=hx.2.1;unfold maxLen at S5;have HX:=Lh_ hx;have HB:=Lh_ hB;have HV:=Lh_ hv;have I5:=Lh_ hok;clear hx hB hv hok;have H5:=Lh_ hko;clear hko;have W5:=Lh_ (show ∀ d ∈ L,d.attrs.length≤1000000 from fun d hd=>attrs_le (HV.out.chk d hd));go_enter Tryz.func19,Tryz.ntmps19;go_upto_region 1 with fail
 obtain ⟨w1,D4,V1,I3,W0⟩:=bx_ w [.slice A L.length c] 47;try simp only [D4]
 have I0:=Lh_ V1;clear D4 V1;try rw [← I3.out]
 have E:=W0.out.1 0 _ rfl;obtain ⟨q,hq⟩:∃ z,(findD L n).isSome=z:=⟨_,rfl⟩;have HQ:=Lh_ hq;clear hq;go_wp2_with fail;refine (RFind_any A c L n _ B (Nat.le_trans HB.out I0.out.size) (HX.out.keep (I0.out.mono HB.out))).mono ?_;rintro e w2 ⟨Y0,d,A3,c3,hd,rfl,B4,C4⟩;clear E;have Q1:=tb_ I0 Y0;have H4:=kb_ W0 Y0;clear Y0;have E:=H4.out.1 0 _ rfl;rw [HQ.out];have Hd:=Lh_ (show d=(findD L n).getD zeroD from hd);have C0:=Lh_ B4;have M5:=Lh_ ((show Sl w2 B A3 c3 d.attrs from C4).more (Nat.le_trans HB.out Q1.out.size));clear hd B4 C4;go_upto_region 2 with fail
 obtain ⟨w3,E4,G0,J3,V0⟩:=bx_ w2 [.int .i64 d.idx,.int .i64 d.par,.string d.nm,.string d.orig,.string d.sub,.string d.drv,.string d.ali,.int .i64 d.kind,.int .i64 d.num,.slice A3 d.attrs.length c3] 84;try simp only [E4]
 have D0:=tb_ Q1 G0;have I4:=kb_ H4 G0;have P2:=Lh_ ((M5.out).next (Nat.le_refl _) G0);clear E4 G0;try rw [← J3.out]
 clear E;have E:=I4.out.1 0 _ rfl;obtain ⟨G,H,I,J,K,M,N,O,P,Q⟩:=s10_ V0.out.1;cases q
 ·
  have HE:=Lh_ (base_none HQ.out);go_wp2;go_ret;exact ⟨D0.out,none,0,by rw [HE.out];rfl,by rw [HE.out];exact Sl.nil_⟩
 have L5:=Lh_ (strF_small HV.out n);obtain ⟨l0,hl0⟩:∃ z:List Attr,[]=z:=⟨_,rfl⟩;have V5:=Lh_ hl0.symm;clear hl0;go_wp2_with fail;refine (RPlace_any A c L n _ B (Nat.le_trans HB.out D0.out.size) (HX.out.keep (D0.out.mono HB.out)) HV.out hn).mono ?_;rintro e w4 ⟨rfl,A0⟩;clear E G H I J K M N O P Q;have E3:=tb_ D0 A0;have J4:=kb_ I4 A0;have W3:=kb_ V0 A0;have Q2:=Lh_ ((P2.out).next (Nat.le_refl _) A0);clear A0;have E:=J4.out.1 0 _ rfl;obtain ⟨G,H,I,J,K,M,N,O,P,Q⟩:=s10_ W3.out.1;go_wp2_with fail;refine (Set_any none 0 [] kDevpath (strF L n) _ w4.heap.size (Nat.le_refl _) Sl.nil_ (by decide) (by decide) L5.out).mono ?_;rintro e w5 ⟨B0,Z5,rfl,C⟩;clear E G H I J K M N O P Q;have F3:=tb_ E3 B0;have K4:=kb_ J4 B0;have X3:=kb_ W3 B0;have R2:=Lh_ ((Q2.out).next (Nat.le_refl _) B0);clear B0;have E:=K4.out.1 0 _ rfl;obtain ⟨G,H,I,J,K,M,N,O,P,Q⟩:=s10_ X3.out.1;obtain ⟨C5,N5,rfl,D⟩:=C.sl;obtain ⟨l1,hl_⟩:∃ z,setA [] kDevpath (strF L n)=z:=⟨_,rfl⟩;rw [hl_] at D ⊢;have P3:=Lh_ D;have M0:=Lh_ hl_;clear D hl_ C;have L3:=Lh_ (show l1.length≤1 from by rw [← M0.out];exact set_len (by simp));go_wp2_with fail;refine (Set_any C5 N5 l1 kSubsystem d.sub _ w5.heap.size (Nat.le_refl _) P3.out (by have:=L3.out;omega) (by decide) C0.out.2.2.2.2.1).mono ?_;rintro e w6 ⟨Z,A6,rfl,C⟩;clear E G H I J K M N O P Q;have G3:=tb_ F3 Z;have L4:=kb_ K4 Z;have X0:=kb_ X3 Z;have S2:=Lh_ ((R2.out).next (Nat.le_refl _) Z);have H2:=Lh_ ((P3.out).next (Nat.le_refl _) Z);clear Z;have E:=L4.out.1 0 _ rfl;obtain ⟨G,H,I,J,K,M,N⟩:=s7_ X0.out.1;have O:=X0.out.1 7 _ rfl;have P:=X0.out.1 8 _ rfl
 have Q:=X0.out.1 9 _ rfl;obtain ⟨D5,O5,rfl,D⟩:=C.sl;obtain ⟨l2,hl_⟩:∃ z,setA l1 kSubsystem d.sub=z:=⟨_,rfl⟩;rw [hl_] at D ⊢;have Q3:=Lh_ D;have N0:=Lh_ hl_;clear D hl_ C;have M3:=Lh_ (show l2.length≤2 from by rw [← N0.out];exact set_len L3.out);go_wp2_with fail;refine (Set_any D5 O5 l2 kDriver d.drv _ w6.heap.size (Nat.le_refl _) Q3.out (by have:=M3.out;omega) (by decide) C0.out.2.2.2.2.2.1).mono ?_;rintro e w7 ⟨Y,B6,rfl,C⟩;clear E G H I J K M N O P Q;have H3:=tb_ G3 Y;have M4:=kb_ L4 Y;have Y3:=kb_ X0 Y;have T2:=Lh_ ((S2.out).next (Nat.le_refl _) Y);have I2:=Lh_ ((H2.out).next (Nat.le_refl _) Y);have K2:=Lh_ ((Q3.out).next (Nat.le_refl _) Y);clear Y;have E:=M4.out.1 0 _ rfl;obtain ⟨G,H,I,J,K,M,N,O,P,Q⟩:=s10_ Y3.out.1;obtain ⟨F5,Q5,rfl,D⟩:=C.sl;obtain ⟨l3,hl_⟩:∃ z,setA l2 kDriver d.drv=z:=⟨_,rfl⟩;rw [hl_] at D ⊢;have R3:=Lh_ D;have O0:=Lh_ hl_;clear D hl_ C;have N3:=Lh_ (show l3.length≤3 from by rw [← O0.out];exact set_len M3.out);go_wp2_with fail;refine (Set_any F5 Q5 l3 kModalias d.ali _ w7.heap.size (Nat.le_refl _) R3.out (by have:=N3.out;omega) (by decide) C0.out.2.2.2.2.2.2.1).mono ?_;rintro e w8 ⟨W,C6,rfl,C⟩;clear E G H I J K M N O P Q;have R1:=tb_ H3 W;have N4:=kb_ M4 W;have Z3:=kb_ Y3 W;have U2:=Lh_ ((T2.out).next (Nat.le_refl _) W);have J2:=Lh_ ((I2.out).next (Nat.le_refl _) W);have L2:=Lh_ ((K2.out).next (Nat.le_refl _) W);have M2:=Lh_ ((R3.out).next (Nat.le_refl _) W);clear W;have E:=N4.out.1 0 _ rfl;obtain ⟨G,H,I,J,K,M,N,O,P,Q⟩:=s10_ Z3.out.1;obtain ⟨Z1,W2,rfl,D⟩:=C.sl;obtain ⟨l4,hl_⟩:∃ z,setA l3 kModalias d.ali=z:=⟨_,rfl⟩;rw [hl_] at D ⊢;have J5:=Lh_ D;have P0:=Lh_ hl_;clear D hl_ C;have Z0:=Lh_ (show l4.length≤4 from by rw [← P0.out];exact set_len N3.out)
 have S3:=Lh_ (show d.orig.size≤32 by have:=findD_small HV.out n;rw [← Hd.out] at this;exact this);obtain ⟨nd,hnd⟩:∃ z,(nodeD d).isSome=z:=⟨_,rfl⟩;have Q0:=Lh_ hnd;clear hnd;go_wp2_with fail;refine (RNode_any d A3 c3 _ (by have:=S3.out;omega) (H5.out.next R1.out)).mono ?_;rintro e w9 ⟨rfl,V⟩;clear E G H I J K M N O P Q;have L0:=tb_ R1 V;have Z2:=kb_ N4 V;have V2:=kb_ Z3 V;have U0:=Lh_ ((U2.out).next (Nat.le_refl _) V);have R0:=Lh_ ((J2.out).next (Nat.le_refl _) V);have S0:=Lh_ ((L2.out).next (Nat.le_refl _) V);have T0:=Lh_ ((M2.out).next (Nat.le_refl _) V);have X:=Lh_ ((J5.out).next (Nat.le_refl _) V);clear V;have E:=Z2.out.1 0 _ rfl;obtain ⟨G,H,I,J,K,M,N,O,P,Q⟩:=s10_ V2.out.1;rw [Q0.out];cases nd
 ·
  by_cases hk:d.kind=4
  ·
   have HK:=Lh_ hk;have Y2:(d.kind == 4)=true:=by rw [hk];rfl
   go_wp2_with fail;refine (Set_any Z1 W2 l4 kInterface d.orig _ w9.heap.size (Nat.le_refl _) X.out (by have:=Z0.out;omega) (by decide) C0.out.2.2.2.1).mono ?_;rintro e w10 ⟨T,T5,rfl,C⟩;clear E G H I J K M N O P Q;have B2:=tb_ L0 T;have F4:=kb_ Z2 T;have U3:=kb_ V2 T;have Y4:=Lh_ ((U0.out).next (Nat.le_refl _) T);have O4:=Lh_ ((R0.out).next (Nat.le_refl _) T);have Q4:=Lh_ ((S0.out).next (Nat.le_refl _) T);have S4:=Lh_ ((T0.out).next (Nat.le_refl _) T);have U4:=Lh_ ((X.out).next (Nat.le_refl _) T);clear T;have E:=F4.out.1 0 _ rfl;obtain ⟨G,H,I,J,K,M,N,O,P,Q⟩:=s10_ U3.out.1;obtain ⟨A2,X2,rfl,D⟩:=C.sl;obtain ⟨l5,hl_⟩:∃ z,setA l4 kInterface d.orig=z:=⟨_,rfl⟩;rw [hl_] at D ⊢;have N2:=Lh_ D;have H0:=Lh_ hl_;clear D hl_ C;have G2:=Lh_ (show l5.length≤5 from by rw [← H0.out];exact set_len Z0.out);have HE:=Lh_ (show baseL L n=l5 from by rw [base_some HQ.out Hd.out];unfold baseP;rw [if_neg (by rw [Q0.out];decide),if_pos HK.out];simp only [List.append_nil,List.cons_append,List.nil_append,putAll,List.foldl_cons,List.foldl_nil];rw [M0.out,N0.out,O0.out,P0.out,H0.out]);go_wp2;go_ret;exact ⟨B2.out,A2,X2,by rw [HE.out];rfl,by rw [HE.out];exact N2.out⟩
  have HK:=Lh_ hk;have Y2:(d.kind == 4)=false:=by simpa using hk
  have HE:=Lh_ (show baseL L n=l4 from by rw [base_some HQ.out Hd.out];unfold baseP;rw [if_neg (by rw [Q0.out];decide),if_neg HK.out];simp only [List.append_nil,List.cons_append,List.nil_append,putAll,List.foldl_cons,List.foldl_nil];rw [M0.out,N0.out,O0.out,P0.out]);go_wp2;go_ret;exact ⟨L0.out,Z1,W2,by rw [HE.out];rfl,by rw [HE.out];exact X.out⟩
 go_wp2_with fail;refine (Set_any Z1 W2 l4 kDevname (nodeV d) _ w9.heap.size (Nat.le_refl _) X.out (by have:=Z0.out;omega) (by decide) (by have:=node_small S3.out;unfold maxLen;omega)).mono ?_;rintro e w11 ⟨U,T5,rfl,C⟩;clear E G H I J K M N O P Q;have J0:=tb_ L0 U;have W1:=kb_ Z2 U;have S1:=kb_ V2 U;have N1:=Lh_ ((U0.out).next (Nat.le_refl _) U);have A1:=Lh_ ((R0.out).next (Nat.le_refl _) U);have D1:=Lh_ ((S0.out).next (Nat.le_refl _) U);have G1:=Lh_ ((T0.out).next (Nat.le_refl _) U);have J1:=Lh_ ((X.out).next (Nat.le_refl _) U);clear U;have E:=W1.out.1 0 _ rfl;obtain ⟨G,H,I,J,K,M,N,O,P,Q⟩:=s10_ S1.out.1;obtain ⟨A2,X2,rfl,D⟩:=C.sl;obtain ⟨l5,hl_⟩:∃ z,setA l4 kDevname (nodeV d)=z:=⟨_,rfl⟩;rw [hl_] at D ⊢;have N2:=Lh_ D;have H0:=Lh_ hl_;clear D hl_ C;have G2:=Lh_ (show l5.length≤5 from by rw [← H0.out];exact set_len Z0.out);go_wp2_with fail;refine (Itoa_any d.num _ (I5.out.below J0.out) C0.out.2.2.2.2.2.2.2.2).mono ?_;rintro e w12 ⟨rfl,R⟩;clear E G H I J K M N O P Q;have C2:=tb_ J0 R;have X1:=kb_ W1 R;have T1:=kb_ S1 R;have O1:=Lh_ ((N1.out).next (Nat.le_refl _) R);have B1:=Lh_ ((A1.out).next (Nat.le_refl _) R);have E1:=Lh_ ((D1.out).next (Nat.le_refl _) R);have H1:=Lh_ ((G1.out).next (Nat.le_refl _) R);have K1:=Lh_ ((J1.out).next (Nat.le_refl _) R);have F0:=Lh_ ((N2.out).next (Nat.le_refl _) R);clear R;have E:=X1.out.1 0 _ rfl;obtain ⟨G,H,I,J,K,M,N,O,P,Q⟩:=s10_ T1.out.1;go_wp2_with fail;refine (Set_any A2 X2 l5 kNumber (itoaT d.num) _ w12.heap.size (Nat.le_refl _) F0.out (by have:=G2.out;omega) (by decide) (itoaT_small C0.out.2.2.2.2.2.2.2.2)).mono ?_;rintro e w13 ⟨S,D6,rfl,C⟩;clear E G H I J K M N O P Q;have K0:=tb_ C2 S
 have Y1:=kb_ X1 S;have U1:=kb_ T1 S;have P1:=Lh_ ((O1.out).next (Nat.le_refl _) S);have C1:=Lh_ ((B1.out).next (Nat.le_refl _) S);have F1:=Lh_ ((E1.out).next (Nat.le_refl _) S);have I1:=Lh_ ((H1.out).next (Nat.le_refl _) S);have L1:=Lh_ ((K1.out).next (Nat.le_refl _) S);have M1:=Lh_ ((F0.out).next (Nat.le_refl _) S);clear S;have E:=Y1.out.1 0 _ rfl;obtain ⟨G,H,I,J,K,M,N,O,P,Q⟩:=s10_ U1.out.1;obtain ⟨C3,A4,rfl,D⟩:=C.sl;obtain ⟨l6,hl_⟩:∃ z,setA l5 kNumber (itoaT d.num)=z:=⟨_,rfl⟩;rw [hl_] at D ⊢;have O2:=Lh_ D;have F2:=Lh_ hl_;clear D hl_ C;have O3:=Lh_ (show l6.length≤6 from by rw [← F2.out];exact set_len G2.out);by_cases hk:d.kind=4
 ·
  have HK:=Lh_ hk;have Y2:(d.kind == 4)=true:=by rw [hk];rfl
  go_wp2_with fail;refine (Set_any C3 A4 l6 kInterface d.orig _ w13.heap.size (Nat.le_refl _) O2.out (by have:=O3.out;omega) (by decide) C0.out.2.2.2.1).mono ?_;rintro e w14 ⟨F,E6,rfl,C⟩;clear E G H I J K M N O P Q;have D2:=tb_ K0 F;have G4:=kb_ Y1 F;have V3:=kb_ U1 F;have Z4:=Lh_ ((P1.out).next (Nat.le_refl _) F);have P4:=Lh_ ((C1.out).next (Nat.le_refl _) F);have R4:=Lh_ ((F1.out).next (Nat.le_refl _) F);have T4:=Lh_ ((I1.out).next (Nat.le_refl _) F);have V4:=Lh_ ((L1.out).next (Nat.le_refl _) F);have W4:=Lh_ ((M1.out).next (Nat.le_refl _) F);have X4:=Lh_ ((O2.out).next (Nat.le_refl _) F);clear F;have E:=G4.out.1 0 _ rfl;obtain ⟨G,H,I,J,K,M,N,O,P,Q⟩:=s10_ V3.out.1;obtain ⟨G5,R5,rfl,D⟩:=C.sl;obtain ⟨l7,hl_⟩:∃ z,setA l6 kInterface d.orig=z:=⟨_,rfl⟩;rw [hl_] at D ⊢;have K5:=Lh_ D;have K3:=Lh_ hl_;clear D hl_ C;have X5:=Lh_ (show l7.length≤7 from by rw [← K3.out];exact set_len O3.out);have HE:=Lh_ (show baseL L n=l7 from by rw [base_some HQ.out Hd.out];unfold baseP;rw [if_pos Q0.out,if_pos HK.out];simp only [List.append_nil,List.cons_append,List.nil_append,putAll,List.foldl_cons,List.foldl_nil];rw [M0.out,N0.out,O0.out,P0.out,H0.out,F2.out,K3.out]);go_wp2;go_ret;exact ⟨D2.out,G5,R5,by rw [HE.out];rfl,by rw [HE.out];exact K5.out⟩
 have HK:=Lh_ hk;have Y2:(d.kind == 4)=false:=by simpa using hk
 have HE:=Lh_ (show baseL L n=l6 from by rw [base_some HQ.out Hd.out];unfold baseP;rw [if_pos Q0.out,if_neg HK.out];simp only [List.append_nil,List.cons_append,List.nil_append,putAll,List.foldl_cons,List.foldl_nil];rw [M0.out,N0.out,O0.out,P0.out,H0.out,F2.out]);go_wp2;go_ret;exact ⟨K0.out,C3,A4,by rw [HE.out];rfl,by rw [HE.out];exact O2.out⟩
end Go.Cold
