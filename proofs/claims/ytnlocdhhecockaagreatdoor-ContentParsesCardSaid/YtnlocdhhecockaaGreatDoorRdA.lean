/-
  The plain side of layer 7, on: what the reference's reader computes, and that it reads the text of a valid content as this content. No program is named here.
-/
import Derived.Test.YtnlocdhhecockaaGreatDoorCrD
import Derived.Lib.SplitLaws
import Derived.Lib.IndexBytes
set_option linter.unusedSimpArgs false
set_option linter.unusedVariables false
namespace Go.Cold
open Go Go.RowKit Go.Proofs.YtnlocdhhecockaaGreatDoor
/-- A text cut at a byte, as strings.Split cuts it. -/
def partsB (c : UInt8) (s : ByteArray) : List ByteArray := Lib.splitB ⟨#[c]⟩ 0 (Lib.countB s ⟨#[c]⟩) s
def splitL (s : List UInt8) (c : UInt8) : List (List UInt8) := Lib.splitK [c] 0 (Lib.count s [c]) s
theorem indexByte_no {s : List UInt8} {c : UInt8} (h : ∀ b ∈ s, b ≠ c) : Lib.indexByte s c = -1 := by
  induction s with
  | nil => rfl
  | cons b s ih =>
    rw [Lib.indexByte, if_neg (by simpa using h b List.mem_cons_self), ih (fun x hx => h x (List.mem_cons_of_mem _ hx))]
    rfl
theorem indexByte_at {a r : List UInt8} {c : UInt8} (h : ∀ b ∈ a, b ≠ c) : Lib.indexByte (a ++ c :: r) c = a.length := by
  induction a with
  | nil => rw [List.nil_append, Lib.indexByte, if_pos (by simp)]; rfl
  | cons b a ih =>
    rw [List.cons_append, Lib.indexByte, if_neg (by simpa using h b List.mem_cons_self), ih (fun x hx => h x (List.mem_cons_of_mem _ hx)), if_neg (by simp <;> omega)]
    rw [List.length_cons]; omega
theorem split_no {s : List UInt8} {c : UInt8} (h : ∀ b ∈ s, b ≠ c) : splitL s c = [s] := by
  unfold splitL
  rw [Lib.count_miss (by rw [Lib.index_one, indexByte_no h])]
  rfl
theorem split_at {a r : List UInt8} {c : UInt8} (h : ∀ b ∈ a, b ≠ c) : splitL (a ++ c :: r) c = a :: splitL r c := by
  have hi : Lib.index (a ++ c :: r) [c] = a.length := by rw [Lib.index_one, indexByte_at h]
  have hc : Lib.count (a ++ c :: r) [c] = Lib.count r [c] + 1 := by
    rw [Lib.count_hit (by simp) hi]
    have : (a ++ c :: r).drop (a.length + [c].length) = r := by rw [← List.drop_drop, List.drop_left]; rfl
    rw [this]; omega
  unfold splitL
  rw [hc, Lib.splitK, hi, if_neg (by simp <;> omega)]
  have h1 : (a ++ c :: r).take ((a.length : Int).toNat + 0) = a := by simp
  have h2 : (a ++ c :: r).drop ((a.length : Int).toNat + [c].length) = r := by
    rw [Int.toNat_natCast, ← List.drop_drop, List.drop_left]; rfl
  rw [h1, h2]
theorem parts_map (c : UInt8) (s : ByteArray) : partsB c s = (splitL s.data.toList c).map fun l => ⟨l.toArray⟩ := by
  have h := Lib.splitB_data ⟨#[c]⟩ 0 (Lib.countB s ⟨#[c]⟩) s
  have h2 : (partsB c s).map (·.data.toList) = splitL s.data.toList c := h
  rw [← h2, List.map_map]
  have h3 : ((fun l : List UInt8 => (⟨l.toArray⟩ : ByteArray)) ∘ fun x : ByteArray => x.data.toList) = id := by funext x; apply ba_ext; simp
  rw [h3, List.map_id]

/-- A number of at most two digits, else 0. -/
def numR (s : ByteArray) : Int := match s.data.toList with
  | [a] => if 49 ≤ a.toNat ∧ a.toNat ≤ 57 then a.toNat - 48 else 0
  | [a, b] => if (49 ≤ a.toNat ∧ a.toNat ≤ 57) ∧ 48 ≤ b.toNat ∧ b.toNat ≤ 57 then 10 * (a.toNat - 48) + (b.toNat - 48) else 0
  | _ => 0
theorem numR_T : ∀ n : Fin 17, numR (numT n.val) = (n.val : Int) := by decide +kernel
def fsN : ByteArray := ⟨#[102, 115]⟩
def raidN : ByteArray := ⟨#[114, 97, 105, 100]⟩
def cryptN : ByteArray := ⟨#[99, 114, 121, 112, 116]⟩
def pvN : ByteArray := ⟨#[112, 118]⟩
def tableN : ByteArray := ⟨#[116, 97, 98, 108, 101]⟩
/-- The content that the pieces of a head say, without what is inside. -/
def headP (p : List ByteArray) : Option Cont :=
  let at' : Nat → ByteArray := fun i => p.getD i ⟨#[]⟩
  let sl : List ByteArray := if p.length = 3 then partsB 47 (at' 2) else []
  if p.length < 2 then none
  else if at' 0 = fsN ∧ p.length = 3 then some (.mk 1 (at' 1) (at' 2) 0 0 0 [])
  else if at' 0 = raidN ∧ sl.length = 3 then some (.mk 2 (at' 1) ⟨#[]⟩ (numR (sl.getD 0 ⟨#[]⟩)) (numR (sl.getD 1 ⟨#[]⟩)) (numR (sl.getD 2 ⟨#[]⟩)) [])
  else if at' 0 = cryptN ∧ p.length = 2 then some (.mk 3 (at' 1) ⟨#[]⟩ 0 0 0 [])
  else if at' 0 = pvN ∧ sl.length = 2 then some (.mk 4 (at' 1) ⟨#[]⟩ (numR (sl.getD 0 ⟨#[]⟩)) (numR (sl.getD 1 ⟨#[]⟩)) 0 [])
  else if at' 0 = tableN ∧ p.length = 2 then some (.mk 5 (at' 1) ⟨#[]⟩ 0 0 0 [])
  else none
def putIn : Cont → List Cont → Cont
  | .mk k i l s t e _, xs => .mk k i l s t e xs
def kindOf : Cont → Int
  | .mk k _ _ _ _ _ _ => k
def brE : ByteArray := ⟨#[40, 44, 41]⟩
def headE (b : Option UInt8) : Bool := b == none || b == some 44 || b == some 41
/-- What stands in brackets. -/
def loopR (f : ByteArray → Option (Cont × ByteArray)) : Nat → ByteArray → List Cont → Option (List Cont × ByteArray)
  | 0, _, _ => none
  | n + 1, rest, acc =>
    if rest.data.toList.head? = some 41 then some (acc, rest)
    else match f (rest.extract 1 rest.size) with
      | none => none
      | some (x, more) => if more.size = 0 then none else loopR f n more (acc ++ [x])
def zeroC : Cont := .mk 0 ⟨#[]⟩ ⟨#[]⟩ 0 0 0 []
def readS (f : ByteArray → Option (Cont × ByteArray)) (s : ByteArray) : Option (Cont × ByteArray) :=
  let n := untilN s brE
  let rest := s.extract n s.size
  match headP (partsB 58 (s.extract 0 n)) with
  | none => none
  | some c =>
    if kindOf c = 1 then some (c, rest)
    else if rest.data.toList.head? = some 40 then
      match loopR f rest.size rest [] with
      | none => none
      | some (l, r) => some (putIn c l, r.extract 1 r.size)
    else none
def readR : Nat → ByteArray → Option (Cont × ByteArray)
  | 0, s => if headE s.data.toList.head? then some (zeroC, s) else none
  | d + 1, s => if headE s.data.toList.head? then some (zeroC, s) else readS (readR d) s
/-- The reference's parser. -/
noncomputable def refP (s : ByteArray) : Option Cont :=
  if 256 < s.size then none
  else match readR 6 s with
    | none => none
    | some (c, r) => if r.size = 0 ∧ badC c = false ∧ textC c = s then some c else none

theorem tail_list (s : ByteArray) {b : UInt8} {r : List UInt8} (h : s.data.toList = b :: r) : (s.extract 1 s.size).data.toList = r := by
  rw [rest_ext]; unfold restL; rw [h]; rfl
theorem all_ext (s : ByteArray) : s.extract 0 s.size = s := by apply ba_ext; rw [rest_ext]; rfl
theorem until_all {s ends : ByteArray} {p r : List UInt8} (h : s.data.toList = p ++ r) (hp : ∀ b ∈ p, ends.data.toList.contains b = false) (hr : EndsIn ends r) : untilN s ends = p.length := by
  have h1 := until_at (s := s) (k := 0) h hp hr
  rwa [all_ext] at h1
theorem head_list {s : ByteArray} {p r : List UInt8} (h : s.data.toList = p ++ r) : s.extract 0 p.length = ⟨p.toArray⟩ := by
  apply ba_ext
  rw [Lib.extract_data, h]
  simp
theorem back_list {s : ByteArray} {p r : List UInt8} (h : s.data.toList = p ++ r) : s.extract p.length s.size = ⟨r.toArray⟩ := by
  apply ba_ext
  rw [rest_ext]
  unfold restL
  rw [h, List.drop_left]
theorem of_list {s : ByteArray} {l : List UInt8} (h : s.data.toList = l) : s = ⟨l.toArray⟩ := by apply ba_ext; simp [h]
/-- The loop reads contents with a comma between two, up to the bracket. -/
theorem loop_text (f : ByteArray → Option (Cont × ByteArray)) : ∀ (xs : List Cont), xs ≠ [] →
    (∀ x ∈ xs, ∀ (s : ByteArray) (r : List UInt8), s.data.toList = (textC x).data.toList ++ r → EndR r → f s = some (x, ⟨r.toArray⟩)) →
    ∀ (n : Nat) (rest : ByteArray) (b : UInt8) (r : List UInt8) (acc : List Cont), b ≠ 41 → rest.data.toList = b :: ((commaB (textL xs)).data.toList ++ 41 :: r) → rest.size ≤ n →
    loopR f n rest acc = some (acc ++ xs, ⟨(41 :: r).toArray⟩)
  | [], h, _ => absurd rfl h
  | [x], _, hx => fun n rest b r acc hb h hn => by
    have hc : (commaB (textL [x])).data.toList = (textC x).data.toList := by rw [textL, textL, comma_one]
    rw [hc] at h
    have hsz : rest.size ≥ 2 := by rw [← ba_size, h]; simp; omega
    obtain ⟨n, rfl⟩ : ∃ m, n = m + 2 := ⟨n - 2, by omega⟩
    have h1 := hx x (by simp) (rest.extract 1 rest.size) (41 :: r) (tail_list rest h) (.inr ⟨_, _, rfl, .inr rfl⟩)
    rw [loopR, h, List.head?_cons, if_neg (by simpa using hb), h1]
    simp only
    rw [if_neg (by rw [← ba_size]; simp), loopR, if_pos (by simp)]
  | x :: y :: ys, _, hx => fun n rest b r acc hb h hn => by
    have hc : (commaB (textL (x :: y :: ys))).data.toList = (textC x).data.toList ++ 44 :: (commaB (textL (y :: ys))).data.toList := by
      rw [textL, textL, comma_two, ← textL]
    rw [hc, List.append_assoc, List.cons_append] at h
    have hsz : rest.size = 1 + ((textC x).data.toList.length + (1 + ((commaB (textL (y :: ys))).data.toList.length + (1 + r.length)))) := by rw [← ba_size, h]; simp; omega
    obtain ⟨n, rfl⟩ : ∃ m, n = m + 1 := ⟨n - 1, by omega⟩
    have h1 := hx x (by simp) (rest.extract 1 rest.size) _ (tail_list rest h) (.inr ⟨_, _, rfl, .inl rfl⟩)
    have ih := loop_text f (y :: ys) (by simp) (fun z hz => hx z (by simp only [List.mem_cons] at hz ⊢; exact .inr hz)) n ⟨(44 :: ((commaB (textL (y :: ys))).data.toList ++ 41 :: r)).toArray⟩ 44 r (acc ++ [x]) (by decide) (by simp) (by have hg := ba_size (commaB (textL (y :: ys))); show (List.toArray _).size ≤ n; simp; omega)
    rw [loopR, h, List.head?_cons, if_neg (by simpa using hb), h1]
    simp only
    rw [if_neg (by rw [← ba_size]; simp), ih]
    simp
theorem br_byte : ∀ n : Fin 256, idE.data.toList.contains (UInt8.ofNat n.val) = false → brE.data.toList.contains (UInt8.ofNat n.val) = false ∧ UInt8.ofNat n.val ≠ 58 := by decide +kernel
theorem id_br {i : ByteArray} (h : idB i = true) : ∀ b ∈ i.data.toList, brE.data.toList.contains b = false ∧ b ≠ 58 := by
  intro b hb
  have h1 := (id_no h b hb).1
  have h2 := br_byte ⟨b.toNat, UInt8.toNat_lt b⟩
  have h3 : UInt8.ofNat b.toNat = b := by simp
  simp only [h3] at h2
  exact h2 h1
theorem num_br : ∀ n : Fin 17, ∀ b ∈ (numT n.val).data.toList, brE.data.toList.contains b = false ∧ b ≠ 58 ∧ b ≠ 47 := by decide +kernel
theorem EndR.br {r : List UInt8} (h : EndR r) : EndsIn brE r := by
  rcases h with rfl | ⟨b, r', rfl, rfl | rfl⟩
  · exact .inl rfl
  · exact .inr ⟨_, _, rfl, by decide⟩
  · exact .inr ⟨_, _, rfl, by decide⟩
theorem EndR.head {r : List UInt8} (h : EndR r) : headE r.head? = true := by
  rcases h with rfl | ⟨b, r', rfl, rfl | rfl⟩ <;> simp [headE]
section
variable {p0 p1 p2 : ByteArray} {Q : List ByteArray}
theorem headP_short {P : List ByteArray} (h : P.length < 2) : headP P = none := by unfold headP; simp only; rw [if_pos h]
theorem headP_none3 (h1 : p0 ≠ fsN) (h2 : ¬ (p0 = raidN ∧ (partsB 47 p2).length = 3)) (h4 : ¬ (p0 = pvN ∧ (partsB 47 p2).length = 2)) : headP [p0, p1, p2] = none := by
  unfold headP
  simp only [List.getD_cons_zero, List.getD_cons_succ, List.length_cons, List.length_nil]
  rw [if_neg (by decide), if_neg (fun h => h1 h.1), if_neg (fun h => h2 ⟨h.1, by simpa using h.2⟩), if_neg (fun h => absurd h.2 (by decide)), if_neg (fun h => h4 ⟨h.1, by simpa using h.2⟩), if_neg (fun h => absurd h.2 (by decide))]
theorem headP_none2 (h3 : p0 ≠ cryptN) (h5 : p0 ≠ tableN) : headP [p0, p1] = none := by
  unfold headP
  simp only [List.getD_cons_zero, List.getD_cons_succ, List.length_cons, List.length_nil]
  rw [if_neg (by decide), if_neg (fun h => absurd h.2 (by decide)), if_neg (fun h => absurd h.2 (by decide)), if_neg (fun h => h3 h.1), if_neg (fun h => absurd h.2 (by decide)), if_neg (fun h => h5 h.1)]
theorem headP_noneN {P : List ByteArray} (h2 : P.length ≠ 2) (h3 : P.length ≠ 3) : headP P = none := by
  unfold headP
  simp only
  split
  · rfl
  · rw [if_neg (fun h => h3 h.2), if_neg (fun h => by first | exact absurd h.2 (by decide) | (rw [if_neg h3] at h; exact absurd h.2 (by decide))), if_neg (fun h => h2 h.2), if_neg (fun h => by first | exact absurd h.2 (by decide) | (rw [if_neg h3] at h; exact absurd h.2 (by decide))), if_neg (fun h => h2 h.2)]
theorem headP_fs (h : p0 = fsN) : headP [p0, p1, p2] = some (.mk 1 p1 p2 0 0 0 []) := by
  unfold headP
  simp only [List.getD_cons_zero, List.getD_cons_succ, List.length_cons, List.length_nil]
  rw [if_neg (by decide), if_pos ⟨h, by decide⟩]
theorem headP_raid (h : p0 = raidN) {q0 q1 q2 : ByteArray} (hs : partsB 47 p2 = [q0, q1, q2]) : headP [p0, p1, p2] = some (.mk 2 p1 ⟨#[]⟩ (numR q0) (numR q1) (numR q2) []) := by
  unfold headP
  simp only [List.getD_cons_zero, List.getD_cons_succ, List.length_cons, List.length_nil, hs]
  rw [if_neg (by decide), if_neg (fun e => absurd (h.symm.trans e.1) (by decide)), if_pos ⟨h, by simp⟩]
  rfl
theorem headP_pv (h : p0 = pvN) {q0 q1 : ByteArray} (hs : partsB 47 p2 = [q0, q1]) : headP [p0, p1, p2] = some (.mk 4 p1 ⟨#[]⟩ (numR q0) (numR q1) 0 []) := by
  unfold headP
  simp only [List.getD_cons_zero, List.getD_cons_succ, List.length_cons, List.length_nil, hs]
  rw [if_neg (by decide), if_neg (fun e => absurd (h.symm.trans e.1) (by decide)), if_neg (fun e => absurd (h.symm.trans e.1) (by decide)), if_neg (fun e => absurd (h.symm.trans e.1) (by decide)), if_pos ⟨h, by simp⟩]
  rfl
theorem headP_crypt (h : p0 = cryptN) : headP [p0, p1] = some (.mk 3 p1 ⟨#[]⟩ 0 0 0 []) := by
  unfold headP
  simp only [List.getD_cons_zero, List.getD_cons_succ, List.length_cons, List.length_nil]
  rw [if_neg (by decide), if_neg (fun h => absurd h.2 (by decide)), if_neg (fun h => absurd h.2 (by decide)), if_pos ⟨h, by decide⟩]
theorem headP_table (h : p0 = tableN) : headP [p0, p1] = some (.mk 5 p1 ⟨#[]⟩ 0 0 0 []) := by
  unfold headP
  simp only [List.getD_cons_zero, List.getD_cons_succ, List.length_cons, List.length_nil]
  rw [if_neg (by decide), if_neg (fun h => absurd h.2 (by decide)), if_neg (fun h => absurd h.2 (by decide)), if_neg (fun e => absurd (h.symm.trans e.1) (by decide)), if_neg (fun h => absurd h.2 (by decide)), if_pos ⟨h, by decide⟩]
end
end Go.Cold
