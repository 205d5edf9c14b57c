/-
  The shelf's contracts of Go's library at this translation, as the kit's own program lays them in plain declarations (remarks struck).
-/
import Derived.Shelf.Strings.Builder1
import Derived.Shelf.Strings.Builder2
import Derived.Shelf.Strings.OnBuilder
import Derived.Shelf.Small.Utf8
import Derived.Shelf.Small.Strs
import Derived.Shelf.Small.Wraps
import Derived.Shelf.Strings.Search1
import Derived.Shelf.Strings.Search2
import Derived.Shelf.Strings.Search3
import Derived.Shelf.Strings.Count
import Derived.Shelf.LaysM
import Derived.Shelf.Strings.Shaped
import Derived.Shelf.Strings.Prefix
import Derived.Shelf.Strings.Split
import Derived.Shelf.Strings.Replace
import Derived.Shelf.Strings.SplitShaped
import Derived.Shelf.Unicode.Latin
import Derived.Shelf.Strings.Runes
import Derived.Shelf.Strings.IndexAny
import Derived.Shelf.Strings.AsciiSet
import Derived.Shelf.Strings.IndexAnyAll
import Derived.Shelf.Unicode.DecodeSlow
import Derived.Shelf.Unicode.CaseLookup
import Derived.Shelf.Unicode.CaseConvert
import Derived.Shelf.Unicode.CaseTo
import Derived.Shelf.Unicode.CaseLaid
import Derived.Shelf.Slices.Equal
import Derived.Shelf.Slices.Empties2
import Derived.Test.YtidhbckalcjdpaaGreatDoorProg
import Derived.Shelf.Strings.SlTrimAscii
namespace Go.Proofs
open Go.Shelf
def Tryz.lays169_ren : Go.Shelf.Ren := ⟨fun | 169 => 134 | n => n, fun | 70 => 119 | 9 => 9 | 0 => 0 | 72 => 122 | 37 => 120 | 127 => 135 | 3 => 3 | 5 => 5 | n => n, fun | n => n⟩
theorem Tryz.lays169 : Go.Proofs.Lays.n169 Tryz.prog Tryz.lays169_ren := {
  mixed := by kernel_rfl
  f169 := Tryz.func134.trans (congrArg some (by kernel_rfl))
  t0 := Tryz.underlying0
  a0 := Tryz.isAgg0
  z0 := Tryz.sizeOf0
  v0 := Tryz.zeroValue0
  t3 := Tryz.underlying3
  a3 := Tryz.isAgg3
  z3 := Tryz.sizeOf3
  v3 := Tryz.zeroValue3
  t9 := Tryz.underlying9
  a9 := Tryz.isAgg9
  z9 := Tryz.sizeOf9
  v9 := Tryz.zeroValue9
  t37 := Tryz.underlying120
  a37 := Tryz.isAgg120
  z37 := Tryz.sizeOf120
  v37 := Tryz.zeroValue120
  t70 := Tryz.underlying119
  a70 := Tryz.isAgg119
  z70 := Tryz.sizeOf119
  v70 := Tryz.zeroValue119
  t72 := Tryz.underlying122
  a72 := Tryz.isAgg122
  z72 := Tryz.sizeOf122
  v72 := Tryz.zeroValue122
  t127 := Tryz.underlying135
  a127 := Tryz.isAgg135
  z127 := Tryz.sizeOf135
  v127 := Tryz.zeroValue135 }
theorem Tryz.Builder_Extra_169 : Builder.Extra Tryz.prog Tryz.lays169_ren := {
  sizeBuilder := by kernel_rfl
  liesBuilder := by kernel_rfl
  t5 := Tryz.underlying5
  a5 := Tryz.isAgg5
  z5 := Tryz.sizeOf5
  v5 := Tryz.zeroValue5
  infoByte := by kernel_rfl
  cellsByte := by kernel_rfl
  sizeByte := by kernel_rfl
  neB5 := by decide }
open Go.RowKit in
theorem Tryz.Builder_String (B b : Nat) (l : List UInt8) (w : World) (h : Lib.IsBuilder 122 5 B b (Lib.byteCells l) w) (h0 : l ≠ []) :
    Calls Tryz.prog 134 #[.pointer (some ⟨b, 0, none⟩)] w fun e w' => e = .returned (.string ⟨l.toArray⟩) ∧ Below B w w' := Any.Builder_String Tryz.lays169 Tryz.Builder_Extra_169 B b l w h h0
open Go.RowKit in
theorem Tryz.Builder_String_empty (B b : Nat) (w : World) (h : Lib.IsBuilder 122 5 B b [] w) (hBw : B ≤ w.heap.size) :
    Calls Tryz.prog 134 #[.pointer (some ⟨b, 0, none⟩)] w fun e w' => e = .returned (.string ⟨#[]⟩) ∧ Below B w w' := Any.Builder_String_empty Tryz.lays169 Tryz.Builder_Extra_169 B b w h hBw
open Go.RowKit in
theorem Tryz.Builder_String_any (B b : Nat) (l : List UInt8) (w : World) (h : Lib.IsBuilder 122 5 B b (Lib.byteCells l) w) (hBw : B ≤ w.heap.size) :
    Calls Tryz.prog 134 #[.pointer (some ⟨b, 0, none⟩)] w fun e w' => e = .returned (.string ⟨l.toArray⟩) ∧ Below B w w' := Any.Builder_String_any Tryz.lays169 Tryz.Builder_Extra_169 B b l w h hBw
def Tryz.lays241_ren : Go.Shelf.Ren := ⟨fun | 241 => 151 | 277 => 162 | n => n, fun | 70 => 119 | 3 => 3 | 0 => 0 | 72 => 122 | 37 => 120 | 5 => 5 | n => n, fun | n => n⟩
theorem Tryz.lays241 : Go.Proofs.Lays.n241 Tryz.prog Tryz.lays241_ren := {
  mixed := by kernel_rfl
  f241 := Tryz.func151.trans (congrArg some (by kernel_rfl))
  f277 := Tryz.func162.trans (congrArg some (by kernel_rfl))
  t0 := Tryz.underlying0
  a0 := Tryz.isAgg0
  z0 := Tryz.sizeOf0
  v0 := Tryz.zeroValue0
  t3 := Tryz.underlying3
  a3 := Tryz.isAgg3
  z3 := Tryz.sizeOf3
  v3 := Tryz.zeroValue3
  t37 := Tryz.underlying120
  a37 := Tryz.isAgg120
  z37 := Tryz.sizeOf120
  v37 := Tryz.zeroValue120
  t70 := Tryz.underlying119
  a70 := Tryz.isAgg119
  z70 := Tryz.sizeOf119
  v70 := Tryz.zeroValue119
  t72 := Tryz.underlying122
  a72 := Tryz.isAgg122
  z72 := Tryz.sizeOf122
  v72 := Tryz.zeroValue122 }
theorem Tryz.Builder_Extra_241 : Builder.Extra Tryz.prog Tryz.lays241_ren := {
  sizeBuilder := by kernel_rfl
  liesBuilder := by kernel_rfl
  t5 := Tryz.underlying5
  a5 := Tryz.isAgg5
  z5 := Tryz.sizeOf5
  v5 := Tryz.zeroValue5
  infoByte := by kernel_rfl
  cellsByte := by kernel_rfl
  sizeByte := by kernel_rfl
  neB5 := by decide }
open Go.RowKit in
theorem Tryz.Builder_grow_fresh (B b n : Nat) (w : World) (hB : B ≤ b) (hbk : w.heap[b]? = some (.cells #[.pointer (some ⟨b, 0, none⟩), .slice none 0 0] 122 (0, 0))) (hBw : B ≤ w.heap.size) (hn : n ≤ 281474976710656) :
    Calls Tryz.prog 151 #[.pointer (some ⟨b, 0, none⟩), .int .i64 n] w fun e w' => e = .returned (.tuple #[]) ∧ (Lib.BuilderAt 122 5 B b (.pointer (some ⟨b, 0, none⟩)) [] w' ∧ Below B w w') := Any.Builder_grow_fresh Tryz.lays241 Tryz.Builder_Extra_241 B b n w hB hbk hBw hn
def Tryz.lays165_ren : Go.Shelf.Ren := ⟨fun | 165 => 132 | 240 => 150 | 241 => 151 | 276 => 161 | 277 => 162 | n => n, fun | 70 => 119 | 3 => 3 | 0 => 0 | 4 => 4 | 9 => 9 | 20 => 20 | 72 => 122 | 37 => 120 | 164 => 141 | 5 => 5 | n => n, fun | n => n⟩
theorem Tryz.lays165 : Go.Proofs.Lays.n165 Tryz.prog Tryz.lays165_ren := {
  mixed := by kernel_rfl
  f165 := Tryz.func132.trans (congrArg some (by kernel_rfl))
  f240 := Tryz.func150.trans (congrArg some (by kernel_rfl))
  f241 := Tryz.func151.trans (congrArg some (by kernel_rfl))
  f276 := Tryz.func161.trans (congrArg some (by kernel_rfl))
  f277 := Tryz.func162.trans (congrArg some (by kernel_rfl))
  t0 := Tryz.underlying0
  a0 := Tryz.isAgg0
  z0 := Tryz.sizeOf0
  v0 := Tryz.zeroValue0
  t3 := Tryz.underlying3
  a3 := Tryz.isAgg3
  z3 := Tryz.sizeOf3
  v3 := Tryz.zeroValue3
  t4 := Tryz.underlying4
  a4 := Tryz.isAgg4
  z4 := Tryz.sizeOf4
  v4 := Tryz.zeroValue4
  t9 := Tryz.underlying9
  a9 := Tryz.isAgg9
  z9 := Tryz.sizeOf9
  v9 := Tryz.zeroValue9
  t20 := Tryz.underlying20
  a20 := Tryz.isAgg20
  z20 := Tryz.sizeOf20
  v20 := Tryz.zeroValue20
  t37 := Tryz.underlying120
  a37 := Tryz.isAgg120
  z37 := Tryz.sizeOf120
  v37 := Tryz.zeroValue120
  t70 := Tryz.underlying119
  a70 := Tryz.isAgg119
  z70 := Tryz.sizeOf119
  v70 := Tryz.zeroValue119
  t72 := Tryz.underlying122
  a72 := Tryz.isAgg122
  z72 := Tryz.sizeOf122
  v72 := Tryz.zeroValue122
  t164 := Tryz.underlying141
  a164 := Tryz.isAgg141
  z164 := Tryz.sizeOf141
  v164 := Tryz.zeroValue141 }
theorem Tryz.Builder_Extra_165 : Builder.Extra Tryz.prog Tryz.lays165_ren := {
  sizeBuilder := by kernel_rfl
  liesBuilder := by kernel_rfl
  t5 := Tryz.underlying5
  a5 := Tryz.isAgg5
  z5 := Tryz.sizeOf5
  v5 := Tryz.zeroValue5
  infoByte := by kernel_rfl
  cellsByte := by kernel_rfl
  sizeByte := by kernel_rfl
  neB5 := by decide }
open Go.RowKit in
theorem Tryz.Builder_Grow_fresh (B b n : Nat) (w : World) (hB : B ≤ b) (hbk : w.heap[b]? = some (.cells #[.pointer none, .slice none 0 0] 122 (0, 0))) (hBw : B ≤ w.heap.size) (hn : n ≤ 281474976710656) :
    Calls Tryz.prog 132 #[.pointer (some ⟨b, 0, none⟩), .int .i64 n] w fun e w' => e = .returned (.tuple #[]) ∧ (Lib.BuilderAt 122 5 B b (.pointer (some ⟨b, 0, none⟩)) [] w' ∧ Below B w w') := Any.Builder_Grow_fresh Tryz.lays165 Tryz.Builder_Extra_165 B b n w hB hbk hBw hn
def Tryz.lays159_ren : Go.Shelf.Ren := ⟨fun | 159 => 155 | 165 => 132 | 166 => 133 | 167 => 165 | 169 => 134 | 230 => 166 | 204 => 167 | 240 => 150 | 241 => 151 | 197 => 156 | 118 => 177 | 168 => 178 | 270 => 179 | 262 => 180 | 276 => 161 | 277 => 162 | 260 => 168 | 242 => 183 | 313 => 184 | 278 => 185 | 274 => 186 | 275 => 187 | n => n, fun | 9 => 9 | 4 => 4 | 3 => 3 | 5 => 5 | 72 => 122 | 0 => 0 | 76 => 126 | 75 => 125 | 107 => 146 | 70 => 119 | 20 => 20 | 37 => 120 | 127 => 135 | 21 => 21 | 105 => 139 | 164 => 141 | 162 => 169 | 203 => 167 | 119 => 157 | 46 => 152 | 139 => 160 | 138 => 159 | 51 => 163 | 160 => 170 | 208 => 176 | 206 => 174 | 80 => 128 | n => n, fun | 13 => 3 | 3 => 1 | 4 => 2 | n => n⟩
theorem Tryz.lays159 : Go.Proofs.Lays.n159 Tryz.prog Tryz.lays159_ren := {
  mixed := by kernel_rfl
  f118 := Tryz.func177.trans (congrArg some (by kernel_rfl))
  f159 := Tryz.func155.trans (congrArg some (by kernel_rfl))
  f165 := Tryz.func132.trans (congrArg some (by kernel_rfl))
  f166 := Tryz.func133.trans (congrArg some (by kernel_rfl))
  f167 := Tryz.func165.trans (congrArg some (by kernel_rfl))
  f168 := Tryz.func178.trans (congrArg some (by kernel_rfl))
  f169 := Tryz.func134.trans (congrArg some (by kernel_rfl))
  f197 := Tryz.func156.trans (congrArg some (by kernel_rfl))
  f204 := Tryz.func167.trans (congrArg some (by kernel_rfl))
  f230 := Tryz.func166.trans (congrArg some (by kernel_rfl))
  f240 := Tryz.func150.trans (congrArg some (by kernel_rfl))
  f241 := Tryz.func151.trans (congrArg some (by kernel_rfl))
  f242 := Tryz.func183.trans (congrArg some (by kernel_rfl))
  f260 := Tryz.func168.trans (congrArg some (by kernel_rfl))
  f262 := Tryz.func180.trans (congrArg some (by kernel_rfl))
  f270 := Tryz.func179.trans (congrArg some (by kernel_rfl))
  f274 := Tryz.func186.trans (congrArg some (by kernel_rfl))
  f275 := Tryz.func187.trans (congrArg some (by kernel_rfl))
  f276 := Tryz.func161.trans (congrArg some (by kernel_rfl))
  f277 := Tryz.func162.trans (congrArg some (by kernel_rfl))
  f278 := Tryz.func185.trans (congrArg some (by kernel_rfl))
  f313 := Tryz.func184.trans (congrArg some (by kernel_rfl))
  t0 := Tryz.underlying0
  a0 := Tryz.isAgg0
  z0 := Tryz.sizeOf0
  v0 := Tryz.zeroValue0
  t3 := Tryz.underlying3
  a3 := Tryz.isAgg3
  z3 := Tryz.sizeOf3
  v3 := Tryz.zeroValue3
  t4 := Tryz.underlying4
  a4 := Tryz.isAgg4
  z4 := Tryz.sizeOf4
  v4 := Tryz.zeroValue4
  t5 := Tryz.underlying5
  a5 := Tryz.isAgg5
  z5 := Tryz.sizeOf5
  v5 := Tryz.zeroValue5
  t9 := Tryz.underlying9
  a9 := Tryz.isAgg9
  z9 := Tryz.sizeOf9
  v9 := Tryz.zeroValue9
  t20 := Tryz.underlying20
  a20 := Tryz.isAgg20
  z20 := Tryz.sizeOf20
  v20 := Tryz.zeroValue20
  t21 := Tryz.underlying21
  a21 := Tryz.isAgg21
  z21 := Tryz.sizeOf21
  v21 := Tryz.zeroValue21
  t37 := Tryz.underlying120
  a37 := Tryz.isAgg120
  z37 := Tryz.sizeOf120
  v37 := Tryz.zeroValue120
  t46 := Tryz.underlying152
  a46 := Tryz.isAgg152
  z46 := Tryz.sizeOf152
  v46 := Tryz.zeroValue152
  t51 := Tryz.underlying163
  a51 := Tryz.isAgg163
  z51 := Tryz.sizeOf163
  v51 := Tryz.zeroValue163
  t70 := Tryz.underlying119
  a70 := Tryz.isAgg119
  z70 := Tryz.sizeOf119
  v70 := Tryz.zeroValue119
  t72 := Tryz.underlying122
  a72 := Tryz.isAgg122
  z72 := Tryz.sizeOf122
  v72 := Tryz.zeroValue122
  t75 := Tryz.underlying125
  a75 := Tryz.isAgg125
  z75 := Tryz.sizeOf125
  v75 := Tryz.zeroValue125
  t76 := Tryz.underlying126
  a76 := Tryz.isAgg126
  z76 := Tryz.sizeOf126
  v76 := Tryz.zeroValue126
  t105 := Tryz.underlying139
  a105 := Tryz.isAgg139
  z105 := Tryz.sizeOf139
  v105 := Tryz.zeroValue139
  t107 := Tryz.underlying146
  a107 := Tryz.isAgg146
  z107 := Tryz.sizeOf146
  v107 := Tryz.zeroValue146
  t119 := Tryz.underlying157
  a119 := Tryz.isAgg157
  z119 := Tryz.sizeOf157
  t127 := Tryz.underlying135
  a127 := Tryz.isAgg135
  z127 := Tryz.sizeOf135
  v127 := Tryz.zeroValue135
  t138 := Tryz.underlying159
  a138 := Tryz.isAgg159
  z138 := Tryz.sizeOf159
  v138 := Tryz.zeroValue159
  t139 := Tryz.underlying160
  a139 := Tryz.isAgg160
  z139 := Tryz.sizeOf160
  v139 := Tryz.zeroValue160
  t160 := Tryz.underlying170
  a160 := Tryz.isAgg170
  z160 := Tryz.sizeOf170
  v160 := Tryz.zeroValue170
  t162 := Tryz.underlying169
  a162 := Tryz.isAgg169
  z162 := Tryz.sizeOf169
  v162 := Tryz.zeroValue169
  t164 := Tryz.underlying141
  a164 := Tryz.isAgg141
  z164 := Tryz.sizeOf141
  v164 := Tryz.zeroValue141
  t203 := Tryz.underlying167
  a203 := Tryz.isAgg167
  z203 := Tryz.sizeOf167
  v203 := Tryz.zeroValue167
  t206 := Tryz.underlying174
  a206 := Tryz.isAgg174
  z206 := Tryz.sizeOf174
  v206 := Tryz.zeroValue174
  t208 := Tryz.underlying176
  a208 := Tryz.isAgg176
  z208 := Tryz.sizeOf176
  v208 := Tryz.zeroValue176
  g3 := by kernel_rfl
  g4 := by kernel_rfl
  g13 := by kernel_rfl }
theorem Tryz.Builder_Extra_159 : Builder.Extra Tryz.prog Tryz.lays159_ren := {
  sizeBuilder := by kernel_rfl
  liesBuilder := by kernel_rfl
  t5 := Tryz.underlying5
  a5 := Tryz.isAgg5
  z5 := Tryz.sizeOf5
  v5 := Tryz.zeroValue5
  infoByte := by kernel_rfl
  cellsByte := by kernel_rfl
  sizeByte := by kernel_rfl
  neB5 := by decide }
open Go.RowKit in
theorem Tryz.strings_ToLower_ascii (s : ByteArray) (w : World) (hs : s.size ≤ 140737488355328) (hascii : ∀ (j : Nat) (b : UInt8), s.data.toList[j]? = some b → b.toNat < 128) :
    Calls Tryz.prog 155 #[.string s] w fun e w' => e = .returned (.string ⟨(Lib.toLowerA s.data.toList).toArray⟩) ∧ Below w.heap.size w w' := Any.strings_ToLower_ascii Tryz.lays159 Tryz.Builder_Extra_159 s w hs hascii
def Tryz.lays156_ren : Go.Shelf.Ren := ⟨fun | 156 => 107 | 165 => 132 | 166 => 133 | 169 => 134 | 240 => 150 | 241 => 151 | 276 => 161 | 277 => 162 | n => n, fun | 31 => 62 | 9 => 9 | 3 => 3 | 4 => 4 | 0 => 0 | 20 => 20 | 72 => 122 | 76 => 126 | 70 => 119 | 37 => 120 | 75 => 125 | 127 => 135 | 164 => 141 | 5 => 5 | 80 => 128 | n => n, fun | n => n⟩
theorem Tryz.lays156 : Go.Proofs.Lays.n156 Tryz.prog Tryz.lays156_ren := {
  mixed := by kernel_rfl
  f156 := Tryz.func107.trans (congrArg some (by kernel_rfl))
  f165 := Tryz.func132.trans (congrArg some (by kernel_rfl))
  f166 := Tryz.func133.trans (congrArg some (by kernel_rfl))
  f169 := Tryz.func134.trans (congrArg some (by kernel_rfl))
  f240 := Tryz.func150.trans (congrArg some (by kernel_rfl))
  f241 := Tryz.func151.trans (congrArg some (by kernel_rfl))
  f276 := Tryz.func161.trans (congrArg some (by kernel_rfl))
  f277 := Tryz.func162.trans (congrArg some (by kernel_rfl))
  t0 := Tryz.underlying0
  a0 := Tryz.isAgg0
  z0 := Tryz.sizeOf0
  v0 := Tryz.zeroValue0
  t3 := Tryz.underlying3
  a3 := Tryz.isAgg3
  z3 := Tryz.sizeOf3
  v3 := Tryz.zeroValue3
  t4 := Tryz.underlying4
  a4 := Tryz.isAgg4
  z4 := Tryz.sizeOf4
  v4 := Tryz.zeroValue4
  t9 := Tryz.underlying9
  a9 := Tryz.isAgg9
  z9 := Tryz.sizeOf9
  v9 := Tryz.zeroValue9
  t20 := Tryz.underlying20
  a20 := Tryz.isAgg20
  z20 := Tryz.sizeOf20
  v20 := Tryz.zeroValue20
  t31 := Tryz.underlying62
  a31 := Tryz.isAgg62
  z31 := Tryz.sizeOf62
  v31 := Tryz.zeroValue62
  t37 := Tryz.underlying120
  a37 := Tryz.isAgg120
  z37 := Tryz.sizeOf120
  v37 := Tryz.zeroValue120
  t70 := Tryz.underlying119
  a70 := Tryz.isAgg119
  z70 := Tryz.sizeOf119
  v70 := Tryz.zeroValue119
  t72 := Tryz.underlying122
  a72 := Tryz.isAgg122
  z72 := Tryz.sizeOf122
  v72 := Tryz.zeroValue122
  t75 := Tryz.underlying125
  a75 := Tryz.isAgg125
  z75 := Tryz.sizeOf125
  v75 := Tryz.zeroValue125
  t76 := Tryz.underlying126
  a76 := Tryz.isAgg126
  z76 := Tryz.sizeOf126
  v76 := Tryz.zeroValue126
  t127 := Tryz.underlying135
  a127 := Tryz.isAgg135
  z127 := Tryz.sizeOf135
  v127 := Tryz.zeroValue135
  t164 := Tryz.underlying141
  a164 := Tryz.isAgg141
  z164 := Tryz.sizeOf141
  v164 := Tryz.zeroValue141 }
theorem Tryz.Builder_Extra_156 : Builder.Extra Tryz.prog Tryz.lays156_ren := {
  sizeBuilder := by kernel_rfl
  liesBuilder := by kernel_rfl
  t5 := Tryz.underlying5
  a5 := Tryz.isAgg5
  z5 := Tryz.sizeOf5
  v5 := Tryz.zeroValue5
  infoByte := by kernel_rfl
  cellsByte := by kernel_rfl
  sizeByte := by kernel_rfl
  neB5 := by decide }
open Go.RowKit in
theorem Tryz.strings_Join_none (a : Option Addr) (c : Nat) (sep : ByteArray) (w : World) :
    Calls Tryz.prog 107 #[.slice a 0 c, .string sep] w fun e w' => e = .returned (.string ⟨#[]⟩) ∧ w' = w := Any.strings_Join_none Tryz.lays156 Tryz.Builder_Extra_156 a c sep w
open Go.RowKit in
theorem Tryz.strings_Join (bk o c : Nat) (xs : List ByteArray) (sep : ByteArray) (w : World) (hcells : ∀ (j : Nat) x, xs[j]? = some x → w.cell? ⟨bk, o + j, none⟩ = some (.string x)) (hbk : bk < w.heap.size) (hN : xs.length ≤ 140737488355328) (hcap : xs.length ≤ c) (hlen : (Lib.join (xs.map (·.data.toList)) sep.data.toList).length ≤ 140737488355328) :
    Calls Tryz.prog 107 #[.slice (some ⟨bk, o, none⟩) xs.length c, .string sep] w fun e w' => e = .returned (.string ⟨(Lib.join (xs.map (·.data.toList)) sep.data.toList).toArray⟩) ∧ Below w.heap.size w w' := Any.strings_Join Tryz.lays156 Tryz.Builder_Extra_156 bk o c xs sep w hcells hbk hN hcap hlen
def Tryz.lays118_ren : Go.Shelf.Ren := ⟨fun | 118 => 177 | n => n, fun | 21 => 21 | 3 => 3 | 4 => 4 | n => n, fun | n => n⟩
theorem Tryz.lays118 : Go.Proofs.Lays.n118 Tryz.prog Tryz.lays118_ren := {
  mixed := by kernel_rfl
  f118 := Tryz.func177.trans (congrArg some (by kernel_rfl))
  t3 := Tryz.underlying3
  a3 := Tryz.isAgg3
  z3 := Tryz.sizeOf3
  v3 := Tryz.zeroValue3
  t4 := Tryz.underlying4
  a4 := Tryz.isAgg4
  z4 := Tryz.sizeOf4
  v4 := Tryz.zeroValue4
  t21 := Tryz.underlying21
  a21 := Tryz.isAgg21
  z21 := Tryz.sizeOf21
  v21 := Tryz.zeroValue21 }
theorem Tryz.utf8_RuneLen (r : Int) (w : World) :
    Calls Tryz.prog 177 #[.int .i32 r] w fun e w' => e = .returned (.int .i64 (Lib.runeLen r)) ∧ w' = w := Any.utf8_RuneLen Tryz.lays118 r w
def Tryz.lays119_ren : Go.Shelf.Ren := ⟨fun | 119 => 181 | n => n, fun | 21 => 21 | 4 => 4 | n => n, fun | n => n⟩
theorem Tryz.lays119 : Go.Proofs.Lays.n119 Tryz.prog Tryz.lays119_ren := {
  mixed := by kernel_rfl
  f119 := Tryz.func181.trans (congrArg some (by kernel_rfl))
  t4 := Tryz.underlying4
  a4 := Tryz.isAgg4
  z4 := Tryz.sizeOf4
  v4 := Tryz.zeroValue4
  t21 := Tryz.underlying21
  a21 := Tryz.isAgg21
  z21 := Tryz.sizeOf21
  v21 := Tryz.zeroValue21 }
theorem Tryz.utf8_ValidRune (r : Int) (w : World) :
    Calls Tryz.prog 181 #[.int .i32 r] w fun e w' => e = .returned (.bool (Lib.validRune r)) ∧ w' = w := Any.utf8_ValidRune Tryz.lays119 r w
def Tryz.lays213_ren : Go.Shelf.Ren := ⟨fun | 213 => 129 | 265 => 147 | n => n, fun | 9 => 9 | 3 => 3 | n => n, fun | n => n⟩
theorem Tryz.lays213 : Go.Proofs.Lays.n213 Tryz.prog Tryz.lays213_ren := {
  mixed := by kernel_rfl
  f213 := Tryz.func129.trans (congrArg some (by kernel_rfl))
  f265 := Tryz.func147.trans (congrArg some (by kernel_rfl))
  t3 := Tryz.underlying3
  a3 := Tryz.isAgg3
  z3 := Tryz.sizeOf3
  v3 := Tryz.zeroValue3
  t9 := Tryz.underlying9
  a9 := Tryz.isAgg9
  z9 := Tryz.sizeOf9
  v9 := Tryz.zeroValue9 }
open Go.RowKit in
theorem Tryz.bytealg_CompareString (a b : ByteArray) (w : World) :
    Calls Tryz.prog 129 #[.string a, .string b] w fun e w' => e = .returned (.int .i64 (Lib.compareBytes a.data.toList b.data.toList)) ∧ w' = w := Any.bytealg_CompareString Tryz.lays213 a b w
def Tryz.lays106_ren : Go.Shelf.Ren := ⟨fun | 106 => 100 | 213 => 129 | 265 => 147 | n => n, fun | 9 => 9 | 3 => 3 | n => n, fun | n => n⟩
theorem Tryz.lays106 : Go.Proofs.Lays.n106 Tryz.prog Tryz.lays106_ren := {
  mixed := by kernel_rfl
  f106 := Tryz.func100.trans (congrArg some (by kernel_rfl))
  f213 := Tryz.func129.trans (congrArg some (by kernel_rfl))
  f265 := Tryz.func147.trans (congrArg some (by kernel_rfl))
  t3 := Tryz.underlying3
  a3 := Tryz.isAgg3
  z3 := Tryz.sizeOf3
  v3 := Tryz.zeroValue3
  t9 := Tryz.underlying9
  a9 := Tryz.isAgg9
  z9 := Tryz.sizeOf9
  v9 := Tryz.zeroValue9 }
open Go.RowKit in
theorem Tryz.strings_Compare (a b : ByteArray) (w : World) :
    Calls Tryz.prog 100 #[.string a, .string b] w fun e w' => e = .returned (.int .i64 (Lib.compareBytes a.data.toList b.data.toList)) ∧ w' = w := Any.strings_Compare Tryz.lays106 a b w
def Tryz.lays137_ren : Go.Shelf.Ren := ⟨fun | 137 => 145 | 217 => 159 | 266 => 173 | n => n, fun | 9 => 9 | 5 => 5 | 3 => 3 | n => n, fun | n => n⟩
theorem Tryz.lays137 : Go.Proofs.Lays.n137 Tryz.prog Tryz.lays137_ren := {
  mixed := by kernel_rfl
  f137 := Tryz.func145.trans (congrArg some (by kernel_rfl))
  f217 := Tryz.func159.trans (congrArg some (by kernel_rfl))
  f266 := Tryz.func173.trans (congrArg some (by kernel_rfl))
  t3 := Tryz.underlying3
  a3 := Tryz.isAgg3
  z3 := Tryz.sizeOf3
  v3 := Tryz.zeroValue3
  t5 := Tryz.underlying5
  a5 := Tryz.isAgg5
  z5 := Tryz.sizeOf5
  v5 := Tryz.zeroValue5
  t9 := Tryz.underlying9
  a9 := Tryz.isAgg9
  z9 := Tryz.sizeOf9
  v9 := Tryz.zeroValue9 }
open Go.RowKit in
theorem Tryz.strings_IndexByte (s : ByteArray) (c : Int) (w : World) :
    Calls Tryz.prog 145 #[.string s, .int .u8 c] w fun e w' => e = .returned (.int .i64 (Lib.indexByte s.data.toList c.toNat.toUInt8)) ∧ w' = w := Any.strings_IndexByte Tryz.lays137 s c w
def Tryz.lays210_ren : Go.Shelf.Ren := ⟨fun | 210 => 135 | 206 => 148 | n => n, fun | 9 => 9 | 4 => 4 | 3 => 3 | n => n, fun | n => n⟩
theorem Tryz.lays210 : Go.Proofs.Lays.n210 Tryz.prog Tryz.lays210_ren := {
  mixed := by kernel_rfl
  f206 := Tryz.func148.trans (congrArg some (by kernel_rfl))
  f210 := Tryz.func135.trans (congrArg some (by kernel_rfl))
  t3 := Tryz.underlying3
  a3 := Tryz.isAgg3
  z3 := Tryz.sizeOf3
  v3 := Tryz.zeroValue3
  t4 := Tryz.underlying4
  a4 := Tryz.isAgg4
  z4 := Tryz.sizeOf4
  v4 := Tryz.zeroValue4
  t9 := Tryz.underlying9
  a9 := Tryz.isAgg9
  z9 := Tryz.sizeOf9
  v9 := Tryz.zeroValue9 }
open Go.RowKit in
theorem Tryz.stringslite_CutPrefix (s p : ByteArray) (w : World) :
    Calls Tryz.prog 135 #[.string s, .string p] w fun e w' => e = .returned (.tuple #[.string ⟨(Lib.trimPrefix s.data.toList p.data.toList).toArray⟩, .bool (Lib.hasPrefix s.data.toList p.data.toList)]) ∧ w' = w := Any.stringslite_CutPrefix Tryz.lays210 s p w
def Tryz.lays103_ren : Go.Shelf.Ren := ⟨fun | 103 => 109 | 210 => 135 | 206 => 148 | n => n, fun | 9 => 9 | 4 => 4 | 24 => 47 | 3 => 3 | n => n, fun | n => n⟩
theorem Tryz.lays103 : Go.Proofs.Lays.n103 Tryz.prog Tryz.lays103_ren := {
  mixed := by kernel_rfl
  f103 := Tryz.func109.trans (congrArg some (by kernel_rfl))
  f206 := Tryz.func148.trans (congrArg some (by kernel_rfl))
  f210 := Tryz.func135.trans (congrArg some (by kernel_rfl))
  t3 := Tryz.underlying3
  a3 := Tryz.isAgg3
  z3 := Tryz.sizeOf3
  v3 := Tryz.zeroValue3
  t4 := Tryz.underlying4
  a4 := Tryz.isAgg4
  z4 := Tryz.sizeOf4
  v4 := Tryz.zeroValue4
  t9 := Tryz.underlying9
  a9 := Tryz.isAgg9
  z9 := Tryz.sizeOf9
  v9 := Tryz.zeroValue9
  t24 := Tryz.underlying47
  a24 := Tryz.isAgg47
  z24 := Tryz.sizeOf47
  v24 := Tryz.zeroValue47 }
open Go.RowKit in
theorem Tryz.strings_CutPrefix (s p : ByteArray) (w : World) :
    Calls Tryz.prog 109 #[.string s, .string p] w fun e w' => e = .returned (.tuple #[.string ⟨(Lib.trimPrefix s.data.toList p.data.toList).toArray⟩, .bool (Lib.hasPrefix s.data.toList p.data.toList)]) ∧ w' = w := Any.strings_CutPrefix Tryz.lays103 s p w
def Tryz.lays217_ren : Go.Shelf.Ren := ⟨fun | 217 => 159 | 266 => 173 | n => n, fun | 9 => 9 | 5 => 5 | 3 => 3 | n => n, fun | n => n⟩
theorem Tryz.lays217 : Go.Proofs.Lays.n217 Tryz.prog Tryz.lays217_ren := {
  mixed := by kernel_rfl
  f217 := Tryz.func159.trans (congrArg some (by kernel_rfl))
  f266 := Tryz.func173.trans (congrArg some (by kernel_rfl))
  t3 := Tryz.underlying3
  a3 := Tryz.isAgg3
  z3 := Tryz.sizeOf3
  v3 := Tryz.zeroValue3
  t5 := Tryz.underlying5
  a5 := Tryz.isAgg5
  z5 := Tryz.sizeOf5
  v5 := Tryz.zeroValue5
  t9 := Tryz.underlying9
  a9 := Tryz.isAgg9
  z9 := Tryz.sizeOf9
  v9 := Tryz.zeroValue9 }
open Go.RowKit Go.Lib in
theorem Tryz.stringslite_IndexByte (s : ByteArray) (c : Int) (w : World) :
    Calls Tryz.prog 159 #[.string s, .int .u8 c] w fun e w' => e = .returned (.int .i64 (Lib.indexByte s.data.toList c.toNat.toUInt8)) ∧ w' = w := Any.stringslite_IndexByte Tryz.lays217 s c w
def Tryz.lays224_ren : Go.Shelf.Ren := ⟨fun | 224 => 175 | n => n, fun | 3 => 3 | n => n, fun | n => n⟩
theorem Tryz.lays224 : Go.Proofs.Lays.n224 Tryz.prog Tryz.lays224_ren := {
  mixed := by kernel_rfl
  f224 := Tryz.func175.trans (congrArg some (by kernel_rfl))
  t3 := Tryz.underlying3
  a3 := Tryz.isAgg3
  z3 := Tryz.sizeOf3
  v3 := Tryz.zeroValue3 }
open Go.RowKit Go.Lib in
theorem Tryz.bytealg_Cutover (n : Int) (h0 : 0 ≤ n) (h1 : n < 4611686018427387904) (w : World) :
    Calls Tryz.prog 175 #[.int .i64 n] w fun e w' => e = .returned (.int .i64 ((n + 16) / 8)) ∧ w' = w := Any.bytealg_Cutover Tryz.lays224 n h0 h1 w
def Tryz.lays314_ren : Go.Shelf.Ren := ⟨fun | 314 => 182 | n => n, fun | 9 => 9 | 51 => 163 | 3 => 3 | 4 => 4 | 5 => 5 | 46 => 152 | n => n, fun | n => n⟩
theorem Tryz.lays314 : Go.Proofs.Lays.n314 Tryz.prog Tryz.lays314_ren := {
  mixed := by kernel_rfl
  f314 := Tryz.func182.trans (congrArg some (by kernel_rfl))
  t3 := Tryz.underlying3
  a3 := Tryz.isAgg3
  z3 := Tryz.sizeOf3
  v3 := Tryz.zeroValue3
  t4 := Tryz.underlying4
  a4 := Tryz.isAgg4
  z4 := Tryz.sizeOf4
  v4 := Tryz.zeroValue4
  t5 := Tryz.underlying5
  a5 := Tryz.isAgg5
  z5 := Tryz.sizeOf5
  v5 := Tryz.zeroValue5
  t9 := Tryz.underlying9
  a9 := Tryz.isAgg9
  z9 := Tryz.sizeOf9
  v9 := Tryz.zeroValue9
  t46 := Tryz.underlying152
  a46 := Tryz.isAgg152
  z46 := Tryz.sizeOf152
  v46 := Tryz.zeroValue152
  t51 := Tryz.underlying163
  a51 := Tryz.isAgg163
  z51 := Tryz.sizeOf163
  v51 := Tryz.zeroValue163 }
open Go.RowKit Go.Lib in
theorem Tryz.bytealg_hashStr (sep : ByteArray) (hs : sep.size < 4294967281) (w : World) :
    Calls Tryz.prog 182 #[.string sep] w fun e w' => e = .returned (.tuple #[.int .u32 (RK.H sep.data.toList % 4294967296), .int .u32 (16777619 ^ sep.size % 4294967296)]) ∧ w' = w := Any.bytealg_hashStr Tryz.lays314 sep hs w
def Tryz.lays267_ren : Go.Shelf.Ren := ⟨fun | 267 => 176 | 314 => 182 | n => n, fun | 9 => 9 | 3 => 3 | 146 => 164 | 51 => 163 | 4 => 4 | 5 => 5 | 46 => 152 | n => n, fun | n => n⟩
theorem Tryz.lays267 : Go.Proofs.Lays.n267 Tryz.prog Tryz.lays267_ren := {
  mixed := by kernel_rfl
  f267 := Tryz.func176.trans (congrArg some (by kernel_rfl))
  f314 := Tryz.func182.trans (congrArg some (by kernel_rfl))
  t3 := Tryz.underlying3
  a3 := Tryz.isAgg3
  z3 := Tryz.sizeOf3
  v3 := Tryz.zeroValue3
  t4 := Tryz.underlying4
  a4 := Tryz.isAgg4
  z4 := Tryz.sizeOf4
  v4 := Tryz.zeroValue4
  t5 := Tryz.underlying5
  a5 := Tryz.isAgg5
  z5 := Tryz.sizeOf5
  v5 := Tryz.zeroValue5
  t9 := Tryz.underlying9
  a9 := Tryz.isAgg9
  z9 := Tryz.sizeOf9
  v9 := Tryz.zeroValue9
  t46 := Tryz.underlying152
  a46 := Tryz.isAgg152
  z46 := Tryz.sizeOf152
  v46 := Tryz.zeroValue152
  t51 := Tryz.underlying163
  a51 := Tryz.isAgg163
  z51 := Tryz.sizeOf163
  v51 := Tryz.zeroValue163
  t146 := Tryz.underlying164
  a146 := Tryz.isAgg164
  z146 := Tryz.sizeOf164
  v146 := Tryz.zeroValue164 }
open Go.RowKit Go.Lib in
theorem Tryz.bytealg_IndexRabinKarp (s sep : ByteArray) (h1 : 1 ≤ sep.size) (h2 : sep.size ≤ s.size) (hs : s.size < 4294967281) (w : World) :
    Calls Tryz.prog 176 #[.string s, .string sep] w fun e w' => e = .returned (.int .i64 (Lib.index s.data.toList sep.data.toList)) ∧ w' = w := Any.bytealg_IndexRabinKarp Tryz.lays267 s sep h1 h2 hs w
def Tryz.lays219_ren : Go.Shelf.Ren := ⟨fun | 219 => 160 | 217 => 159 | 225 => 174 | 224 => 175 | 267 => 176 | 266 => 173 | 314 => 182 | n => n, fun | 9 => 9 | 3 => 3 | 4 => 4 | 5 => 5 | 46 => 152 | 146 => 164 | 51 => 163 | n => n, fun | 1 => 0 | n => n⟩
theorem Tryz.lays219 : Go.Proofs.Lays.n219 Tryz.prog Tryz.lays219_ren := {
  mixed := by kernel_rfl
  f217 := Tryz.func159.trans (congrArg some (by kernel_rfl))
  f219 := Tryz.func160.trans (congrArg some (by kernel_rfl))
  f224 := Tryz.func175.trans (congrArg some (by kernel_rfl))
  f225 := Tryz.func174.trans (congrArg some (by kernel_rfl))
  f266 := Tryz.func173.trans (congrArg some (by kernel_rfl))
  f267 := Tryz.func176.trans (congrArg some (by kernel_rfl))
  f314 := Tryz.func182.trans (congrArg some (by kernel_rfl))
  t3 := Tryz.underlying3
  a3 := Tryz.isAgg3
  z3 := Tryz.sizeOf3
  v3 := Tryz.zeroValue3
  t4 := Tryz.underlying4
  a4 := Tryz.isAgg4
  z4 := Tryz.sizeOf4
  v4 := Tryz.zeroValue4
  t5 := Tryz.underlying5
  a5 := Tryz.isAgg5
  z5 := Tryz.sizeOf5
  v5 := Tryz.zeroValue5
  t9 := Tryz.underlying9
  a9 := Tryz.isAgg9
  z9 := Tryz.sizeOf9
  v9 := Tryz.zeroValue9
  t46 := Tryz.underlying152
  a46 := Tryz.isAgg152
  z46 := Tryz.sizeOf152
  v46 := Tryz.zeroValue152
  t51 := Tryz.underlying163
  a51 := Tryz.isAgg163
  z51 := Tryz.sizeOf163
  v51 := Tryz.zeroValue163
  t146 := Tryz.underlying164
  a146 := Tryz.isAgg164
  z146 := Tryz.sizeOf164
  v146 := Tryz.zeroValue164
  g1 := by kernel_rfl }
open Go.RowKit Go.Lib in
theorem Tryz.stringslite_Index_one (s : ByteArray) (c : UInt8) (w : World) :
    Calls Tryz.prog 160 #[.string s, .string ⟨#[c]⟩] w fun e w' => e = .returned (.int .i64 (Lib.indexByte s.data.toList c)) ∧ w' = w := Any.stringslite_Index_one Tryz.lays219 s c w
open Go.RowKit Go.Lib in
theorem Tryz.stringslite_Index (s sub : ByteArray) (m : Int) (w : World) (hs : s.size < 4294967281) (hm : w.cell? ⟨0, 0, none⟩ = some (.int .i64 m)) :
    Calls Tryz.prog 160 #[.string s, .string sub] w fun e w' => e = .returned (.int .i64 (Lib.index s.data.toList sub.data.toList)) ∧ w' = w := Any.stringslite_Index Tryz.lays219 s sub m w hs hm
def Tryz.lays143_ren : Go.Shelf.Ren := ⟨fun | 143 => 146 | 219 => 160 | 217 => 159 | 225 => 174 | 224 => 175 | 267 => 176 | 266 => 173 | 314 => 182 | n => n, fun | 9 => 9 | 3 => 3 | 4 => 4 | 5 => 5 | 46 => 152 | 146 => 164 | 51 => 163 | n => n, fun | 1 => 0 | n => n⟩
theorem Tryz.lays143 : Go.Proofs.Lays.n143 Tryz.prog Tryz.lays143_ren := {
  mixed := by kernel_rfl
  f143 := Tryz.func146.trans (congrArg some (by kernel_rfl))
  f217 := Tryz.func159.trans (congrArg some (by kernel_rfl))
  f219 := Tryz.func160.trans (congrArg some (by kernel_rfl))
  f224 := Tryz.func175.trans (congrArg some (by kernel_rfl))
  f225 := Tryz.func174.trans (congrArg some (by kernel_rfl))
  f266 := Tryz.func173.trans (congrArg some (by kernel_rfl))
  f267 := Tryz.func176.trans (congrArg some (by kernel_rfl))
  f314 := Tryz.func182.trans (congrArg some (by kernel_rfl))
  t3 := Tryz.underlying3
  a3 := Tryz.isAgg3
  z3 := Tryz.sizeOf3
  v3 := Tryz.zeroValue3
  t4 := Tryz.underlying4
  a4 := Tryz.isAgg4
  z4 := Tryz.sizeOf4
  v4 := Tryz.zeroValue4
  t5 := Tryz.underlying5
  a5 := Tryz.isAgg5
  z5 := Tryz.sizeOf5
  v5 := Tryz.zeroValue5
  t9 := Tryz.underlying9
  a9 := Tryz.isAgg9
  z9 := Tryz.sizeOf9
  v9 := Tryz.zeroValue9
  t46 := Tryz.underlying152
  a46 := Tryz.isAgg152
  z46 := Tryz.sizeOf152
  v46 := Tryz.zeroValue152
  t51 := Tryz.underlying163
  a51 := Tryz.isAgg163
  z51 := Tryz.sizeOf163
  v51 := Tryz.zeroValue163
  t146 := Tryz.underlying164
  a146 := Tryz.isAgg164
  z146 := Tryz.sizeOf164
  v146 := Tryz.zeroValue164
  g1 := by kernel_rfl }
open Go.RowKit Go.Lib in
theorem Tryz.strings_Index_one (s : ByteArray) (c : UInt8) (w : World) :
    Calls Tryz.prog 146 #[.string s, .string ⟨#[c]⟩] w fun e w' => e = .returned (.int .i64 (Lib.indexByte s.data.toList c)) ∧ w' = w := Any.strings_Index_one Tryz.lays143 s c w
open Go.RowKit Go.Lib in
theorem Tryz.strings_Index (s sub : ByteArray) (m : Int) (w : World) (hs : s.size < 4294967281) (hm : w.cell? ⟨0, 0, none⟩ = some (.int .i64 m)) :
    Calls Tryz.prog 146 #[.string s, .string sub] w fun e w' => e = .returned (.int .i64 (Lib.index s.data.toList sub.data.toList)) ∧ w' = w := Any.strings_Index Tryz.lays143 s sub m w hs hm
def Tryz.lays144_ren : Go.Shelf.Ren := ⟨fun | 144 => 128 | 143 => 146 | 219 => 160 | 217 => 159 | 225 => 174 | 224 => 175 | 267 => 176 | 266 => 173 | 314 => 182 | n => n, fun | 9 => 9 | 4 => 4 | 3 => 3 | 5 => 5 | 46 => 152 | 146 => 164 | 51 => 163 | n => n, fun | 1 => 0 | n => n⟩
theorem Tryz.lays144 : Go.Proofs.Lays.n144 Tryz.prog Tryz.lays144_ren := {
  mixed := by kernel_rfl
  f143 := Tryz.func146.trans (congrArg some (by kernel_rfl))
  f144 := Tryz.func128.trans (congrArg some (by kernel_rfl))
  f217 := Tryz.func159.trans (congrArg some (by kernel_rfl))
  f219 := Tryz.func160.trans (congrArg some (by kernel_rfl))
  f224 := Tryz.func175.trans (congrArg some (by kernel_rfl))
  f225 := Tryz.func174.trans (congrArg some (by kernel_rfl))
  f266 := Tryz.func173.trans (congrArg some (by kernel_rfl))
  f267 := Tryz.func176.trans (congrArg some (by kernel_rfl))
  f314 := Tryz.func182.trans (congrArg some (by kernel_rfl))
  t3 := Tryz.underlying3
  a3 := Tryz.isAgg3
  z3 := Tryz.sizeOf3
  v3 := Tryz.zeroValue3
  t4 := Tryz.underlying4
  a4 := Tryz.isAgg4
  z4 := Tryz.sizeOf4
  v4 := Tryz.zeroValue4
  t5 := Tryz.underlying5
  a5 := Tryz.isAgg5
  z5 := Tryz.sizeOf5
  v5 := Tryz.zeroValue5
  t9 := Tryz.underlying9
  a9 := Tryz.isAgg9
  z9 := Tryz.sizeOf9
  v9 := Tryz.zeroValue9
  t46 := Tryz.underlying152
  a46 := Tryz.isAgg152
  z46 := Tryz.sizeOf152
  v46 := Tryz.zeroValue152
  t51 := Tryz.underlying163
  a51 := Tryz.isAgg163
  z51 := Tryz.sizeOf163
  v51 := Tryz.zeroValue163
  t146 := Tryz.underlying164
  a146 := Tryz.isAgg164
  z146 := Tryz.sizeOf164
  v146 := Tryz.zeroValue164
  g1 := by kernel_rfl }
open Go.RowKit Go.Lib in
theorem Tryz.strings_Contains_one (s : ByteArray) (c : UInt8) (w : World) :
    Calls Tryz.prog 128 #[.string s, .string ⟨#[c]⟩] w fun e w' => e = .returned (.bool (decide (0 ≤ Lib.indexByte s.data.toList c))) ∧ w' = w := Any.strings_Contains_one Tryz.lays144 s c w
open Go.RowKit Go.Lib in
theorem Tryz.strings_Contains (s sub : ByteArray) (m : Int) (w : World) (hs : s.size < 4294967281) (hm : w.cell? ⟨0, 0, none⟩ = some (.int .i64 m)) :
    Calls Tryz.prog 128 #[.string s, .string sub] w fun e w' => e = .returned (.bool (Lib.contains s.data.toList sub.data.toList)) ∧ w' = w := Any.strings_Contains Tryz.lays144 s sub m w hs hm
def Tryz.lays138_ren : Go.Shelf.Ren := ⟨fun | 138 => 153 | 195 => 163 | 218 => 164 | 143 => 146 | 219 => 160 | 217 => 159 | 225 => 174 | 224 => 175 | 267 => 176 | 266 => 173 | 314 => 182 | n => n, fun | 9 => 9 | 3 => 3 | 4 => 4 | 5 => 5 | 0 => 0 | 46 => 152 | 146 => 164 | 51 => 163 | n => n, fun | 1 => 0 | n => n⟩
theorem Tryz.lays138 : Go.Proofs.Lays.n138 Tryz.prog Tryz.lays138_ren := {
  mixed := by kernel_rfl
  f138 := Tryz.func153.trans (congrArg some (by kernel_rfl))
  f143 := Tryz.func146.trans (congrArg some (by kernel_rfl))
  f195 := Tryz.func163.trans (congrArg some (by kernel_rfl))
  f217 := Tryz.func159.trans (congrArg some (by kernel_rfl))
  f218 := Tryz.func164.trans (congrArg some (by kernel_rfl))
  f219 := Tryz.func160.trans (congrArg some (by kernel_rfl))
  f224 := Tryz.func175.trans (congrArg some (by kernel_rfl))
  f225 := Tryz.func174.trans (congrArg some (by kernel_rfl))
  f266 := Tryz.func173.trans (congrArg some (by kernel_rfl))
  f267 := Tryz.func176.trans (congrArg some (by kernel_rfl))
  f314 := Tryz.func182.trans (congrArg some (by kernel_rfl))
  t0 := Tryz.underlying0
  a0 := Tryz.isAgg0
  z0 := Tryz.sizeOf0
  v0 := Tryz.zeroValue0
  t3 := Tryz.underlying3
  a3 := Tryz.isAgg3
  z3 := Tryz.sizeOf3
  v3 := Tryz.zeroValue3
  t4 := Tryz.underlying4
  a4 := Tryz.isAgg4
  z4 := Tryz.sizeOf4
  v4 := Tryz.zeroValue4
  t5 := Tryz.underlying5
  a5 := Tryz.isAgg5
  z5 := Tryz.sizeOf5
  v5 := Tryz.zeroValue5
  t9 := Tryz.underlying9
  a9 := Tryz.isAgg9
  z9 := Tryz.sizeOf9
  v9 := Tryz.zeroValue9
  t46 := Tryz.underlying152
  a46 := Tryz.isAgg152
  z46 := Tryz.sizeOf152
  v46 := Tryz.zeroValue152
  t51 := Tryz.underlying163
  a51 := Tryz.isAgg163
  z51 := Tryz.sizeOf163
  v51 := Tryz.zeroValue163
  t146 := Tryz.underlying164
  a146 := Tryz.isAgg164
  z146 := Tryz.sizeOf164
  v146 := Tryz.zeroValue164
  g1 := by kernel_rfl }
open Go.RowKit Go.Lib in
theorem Tryz.strings_Count_one (s : ByteArray) (c : UInt8) (w : World) :
    Calls Tryz.prog 153 #[.string s, .string ⟨#[c]⟩] w fun e w' => e = .returned (.int .i64 (Lib.countByte s.data.toList c)) ∧ w' = w := Any.strings_Count_one Tryz.lays138 s c w
open Go.RowKit Go.Lib in
theorem Tryz.strings_Count (s sub : ByteArray) (m : Int) (w : World) (hs : s.size < 4294967281) (hm : w.cell? ⟨0, 0, none⟩ = some (.int .i64 m)) (h2 : 2 ≤ sub.size) :
    Calls Tryz.prog 153 #[.string s, .string sub] w fun e w' => e = .returned (.int .i64 (Lib.countB s sub)) ∧ w' = w := Any.strings_Count Tryz.lays138 s sub m w hs hm h2
def Tryz.laysM219_ren : Go.Shelf.Ren := ⟨fun | 219 => 160 | 217 => 159 | 225 => 174 | 224 => 175 | 267 => 176 | 266 => 173 | 314 => 182 | n => n, fun | 9 => 9 | 3 => 3 | 4 => 4 | 5 => 5 | 46 => 152 | 146 => 164 | 51 => 163 | n => n, fun | 1 => 0 | n => n⟩
theorem Tryz.laysM219 : Go.Proofs.LaysM.n219 Tryz.prog Tryz.laysM219_ren := {
  mixed := by kernel_rfl
  f217 := Tryz.func159.trans (congrArg some (by kernel_rfl))
  f219 := Tryz.func160.trans (congrArg some (by kernel_rfl))
  f224 := Tryz.func175.trans (congrArg some (by kernel_rfl))
  f225 := Tryz.func174.trans (congrArg some (by kernel_rfl))
  f266 := Tryz.func173.trans (congrArg some (by kernel_rfl))
  f267 := Tryz.func176.trans (congrArg some (by kernel_rfl))
  f314 := Tryz.func182.trans (congrArg some (by kernel_rfl))
  t3 := Tryz.underlying3
  a3 := Tryz.isAgg3
  z3 := Tryz.sizeOf3
  v3 := Tryz.zeroValue3
  t4 := Tryz.underlying4
  a4 := Tryz.isAgg4
  z4 := Tryz.sizeOf4
  v4 := Tryz.zeroValue4
  t5 := Tryz.underlying5
  a5 := Tryz.isAgg5
  z5 := Tryz.sizeOf5
  v5 := Tryz.zeroValue5
  t9 := Tryz.underlying9
  a9 := Tryz.isAgg9
  z9 := Tryz.sizeOf9
  v9 := Tryz.zeroValue9
  t46 := Tryz.underlying152
  a46 := Tryz.isAgg152
  z46 := Tryz.sizeOf152
  v46 := Tryz.zeroValue152
  t51 := Tryz.underlying163
  a51 := Tryz.isAgg163
  z51 := Tryz.sizeOf163
  v51 := Tryz.zeroValue163
  t146 := Tryz.underlying164
  a146 := Tryz.isAgg164
  z146 := Tryz.sizeOf164
  v146 := Tryz.zeroValue164
  g1 := by kernel_rfl
  i3 := by kernel_rfl
  i4 := by kernel_rfl
  i5 := by kernel_rfl
  i9 := by kernel_rfl
  i46 := by kernel_rfl
  i51 := by kernel_rfl
  i146 := by kernel_rfl
  m1 := by kernel_rfl
  s1_3 := fun w h => Go.Proofs.cell_of_shapedOpen_int (zero := #[.int .i64 0]) (t := 3) h (of_decide_eq_true (by kernel_rfl)) (by kernel_rfl) rfl (by kernel_rfl) (by kernel_rfl) Tryz.underlying3 }
open Go.RowKit Go.Lib in
theorem Tryz.stringslite_Index_shaped (s sub : ByteArray) (w : World) (h : w.ShapedOpen Tryz.prog) (hs : s.size < 4294967281) :
    Calls Tryz.prog 160 #[.string s, .string sub] w fun e w' => e = .returned (.int .i64 (Lib.index s.data.toList sub.data.toList)) ∧ w' = w := Any.stringslite_Index_shaped Tryz.laysM219 s sub w h hs
def Tryz.laysM143_ren : Go.Shelf.Ren := ⟨fun | 143 => 146 | 219 => 160 | 217 => 159 | 225 => 174 | 224 => 175 | 267 => 176 | 266 => 173 | 314 => 182 | n => n, fun | 9 => 9 | 3 => 3 | 4 => 4 | 5 => 5 | 46 => 152 | 146 => 164 | 51 => 163 | n => n, fun | 1 => 0 | n => n⟩
theorem Tryz.laysM143 : Go.Proofs.LaysM.n143 Tryz.prog Tryz.laysM143_ren := {
  mixed := by kernel_rfl
  f143 := Tryz.func146.trans (congrArg some (by kernel_rfl))
  f217 := Tryz.func159.trans (congrArg some (by kernel_rfl))
  f219 := Tryz.func160.trans (congrArg some (by kernel_rfl))
  f224 := Tryz.func175.trans (congrArg some (by kernel_rfl))
  f225 := Tryz.func174.trans (congrArg some (by kernel_rfl))
  f266 := Tryz.func173.trans (congrArg some (by kernel_rfl))
  f267 := Tryz.func176.trans (congrArg some (by kernel_rfl))
  f314 := Tryz.func182.trans (congrArg some (by kernel_rfl))
  t3 := Tryz.underlying3
  a3 := Tryz.isAgg3
  z3 := Tryz.sizeOf3
  v3 := Tryz.zeroValue3
  t4 := Tryz.underlying4
  a4 := Tryz.isAgg4
  z4 := Tryz.sizeOf4
  v4 := Tryz.zeroValue4
  t5 := Tryz.underlying5
  a5 := Tryz.isAgg5
  z5 := Tryz.sizeOf5
  v5 := Tryz.zeroValue5
  t9 := Tryz.underlying9
  a9 := Tryz.isAgg9
  z9 := Tryz.sizeOf9
  v9 := Tryz.zeroValue9
  t46 := Tryz.underlying152
  a46 := Tryz.isAgg152
  z46 := Tryz.sizeOf152
  v46 := Tryz.zeroValue152
  t51 := Tryz.underlying163
  a51 := Tryz.isAgg163
  z51 := Tryz.sizeOf163
  v51 := Tryz.zeroValue163
  t146 := Tryz.underlying164
  a146 := Tryz.isAgg164
  z146 := Tryz.sizeOf164
  v146 := Tryz.zeroValue164
  g1 := by kernel_rfl
  i3 := by kernel_rfl
  i4 := by kernel_rfl
  i5 := by kernel_rfl
  i9 := by kernel_rfl
  i46 := by kernel_rfl
  i51 := by kernel_rfl
  i146 := by kernel_rfl
  m1 := by kernel_rfl
  s1_3 := fun w h => Go.Proofs.cell_of_shapedOpen_int (zero := #[.int .i64 0]) (t := 3) h (of_decide_eq_true (by kernel_rfl)) (by kernel_rfl) rfl (by kernel_rfl) (by kernel_rfl) Tryz.underlying3 }
open Go.RowKit Go.Lib in
theorem Tryz.strings_Index_shaped (s sub : ByteArray) (w : World) (h : w.ShapedOpen Tryz.prog) (hs : s.size < 4294967281) :
    Calls Tryz.prog 146 #[.string s, .string sub] w fun e w' => e = .returned (.int .i64 (Lib.index s.data.toList sub.data.toList)) ∧ w' = w := Any.strings_Index_shaped Tryz.laysM143 s sub w h hs
def Tryz.laysM144_ren : Go.Shelf.Ren := ⟨fun | 144 => 128 | 143 => 146 | 219 => 160 | 217 => 159 | 225 => 174 | 224 => 175 | 267 => 176 | 266 => 173 | 314 => 182 | n => n, fun | 9 => 9 | 4 => 4 | 3 => 3 | 5 => 5 | 46 => 152 | 146 => 164 | 51 => 163 | n => n, fun | 1 => 0 | n => n⟩
theorem Tryz.laysM144 : Go.Proofs.LaysM.n144 Tryz.prog Tryz.laysM144_ren := {
  mixed := by kernel_rfl
  f143 := Tryz.func146.trans (congrArg some (by kernel_rfl))
  f144 := Tryz.func128.trans (congrArg some (by kernel_rfl))
  f217 := Tryz.func159.trans (congrArg some (by kernel_rfl))
  f219 := Tryz.func160.trans (congrArg some (by kernel_rfl))
  f224 := Tryz.func175.trans (congrArg some (by kernel_rfl))
  f225 := Tryz.func174.trans (congrArg some (by kernel_rfl))
  f266 := Tryz.func173.trans (congrArg some (by kernel_rfl))
  f267 := Tryz.func176.trans (congrArg some (by kernel_rfl))
  f314 := Tryz.func182.trans (congrArg some (by kernel_rfl))
  t3 := Tryz.underlying3
  a3 := Tryz.isAgg3
  z3 := Tryz.sizeOf3
  v3 := Tryz.zeroValue3
  t4 := Tryz.underlying4
  a4 := Tryz.isAgg4
  z4 := Tryz.sizeOf4
  v4 := Tryz.zeroValue4
  t5 := Tryz.underlying5
  a5 := Tryz.isAgg5
  z5 := Tryz.sizeOf5
  v5 := Tryz.zeroValue5
  t9 := Tryz.underlying9
  a9 := Tryz.isAgg9
  z9 := Tryz.sizeOf9
  v9 := Tryz.zeroValue9
  t46 := Tryz.underlying152
  a46 := Tryz.isAgg152
  z46 := Tryz.sizeOf152
  v46 := Tryz.zeroValue152
  t51 := Tryz.underlying163
  a51 := Tryz.isAgg163
  z51 := Tryz.sizeOf163
  v51 := Tryz.zeroValue163
  t146 := Tryz.underlying164
  a146 := Tryz.isAgg164
  z146 := Tryz.sizeOf164
  v146 := Tryz.zeroValue164
  g1 := by kernel_rfl
  i3 := by kernel_rfl
  i4 := by kernel_rfl
  i5 := by kernel_rfl
  i9 := by kernel_rfl
  i46 := by kernel_rfl
  i51 := by kernel_rfl
  i146 := by kernel_rfl
  m1 := by kernel_rfl
  s1_3 := fun w h => Go.Proofs.cell_of_shapedOpen_int (zero := #[.int .i64 0]) (t := 3) h (of_decide_eq_true (by kernel_rfl)) (by kernel_rfl) rfl (by kernel_rfl) (by kernel_rfl) Tryz.underlying3 }
open Go.RowKit Go.Lib in
theorem Tryz.strings_Contains_shaped (s sub : ByteArray) (w : World) (h : w.ShapedOpen Tryz.prog) (hs : s.size < 4294967281) :
    Calls Tryz.prog 128 #[.string s, .string sub] w fun e w' => e = .returned (.bool (Lib.contains s.data.toList sub.data.toList)) ∧ w' = w := Any.strings_Contains_shaped Tryz.laysM144 s sub w h hs
def Tryz.laysM138_ren : Go.Shelf.Ren := ⟨fun | 138 => 153 | 195 => 163 | 218 => 164 | 143 => 146 | 219 => 160 | 217 => 159 | 225 => 174 | 224 => 175 | 267 => 176 | 266 => 173 | 314 => 182 | n => n, fun | 9 => 9 | 3 => 3 | 4 => 4 | 5 => 5 | 0 => 0 | 46 => 152 | 146 => 164 | 51 => 163 | n => n, fun | 1 => 0 | n => n⟩
theorem Tryz.laysM138 : Go.Proofs.LaysM.n138 Tryz.prog Tryz.laysM138_ren := {
  mixed := by kernel_rfl
  f138 := Tryz.func153.trans (congrArg some (by kernel_rfl))
  f143 := Tryz.func146.trans (congrArg some (by kernel_rfl))
  f195 := Tryz.func163.trans (congrArg some (by kernel_rfl))
  f217 := Tryz.func159.trans (congrArg some (by kernel_rfl))
  f218 := Tryz.func164.trans (congrArg some (by kernel_rfl))
  f219 := Tryz.func160.trans (congrArg some (by kernel_rfl))
  f224 := Tryz.func175.trans (congrArg some (by kernel_rfl))
  f225 := Tryz.func174.trans (congrArg some (by kernel_rfl))
  f266 := Tryz.func173.trans (congrArg some (by kernel_rfl))
  f267 := Tryz.func176.trans (congrArg some (by kernel_rfl))
  f314 := Tryz.func182.trans (congrArg some (by kernel_rfl))
  t0 := Tryz.underlying0
  a0 := Tryz.isAgg0
  z0 := Tryz.sizeOf0
  v0 := Tryz.zeroValue0
  t3 := Tryz.underlying3
  a3 := Tryz.isAgg3
  z3 := Tryz.sizeOf3
  v3 := Tryz.zeroValue3
  t4 := Tryz.underlying4
  a4 := Tryz.isAgg4
  z4 := Tryz.sizeOf4
  v4 := Tryz.zeroValue4
  t5 := Tryz.underlying5
  a5 := Tryz.isAgg5
  z5 := Tryz.sizeOf5
  v5 := Tryz.zeroValue5
  t9 := Tryz.underlying9
  a9 := Tryz.isAgg9
  z9 := Tryz.sizeOf9
  v9 := Tryz.zeroValue9
  t46 := Tryz.underlying152
  a46 := Tryz.isAgg152
  z46 := Tryz.sizeOf152
  v46 := Tryz.zeroValue152
  t51 := Tryz.underlying163
  a51 := Tryz.isAgg163
  z51 := Tryz.sizeOf163
  v51 := Tryz.zeroValue163
  t146 := Tryz.underlying164
  a146 := Tryz.isAgg164
  z146 := Tryz.sizeOf164
  v146 := Tryz.zeroValue164
  g1 := by kernel_rfl
  i0 := by kernel_rfl
  i3 := by kernel_rfl
  i4 := by kernel_rfl
  i5 := by kernel_rfl
  i9 := by kernel_rfl
  i46 := by kernel_rfl
  i51 := by kernel_rfl
  i146 := by kernel_rfl
  m1 := by kernel_rfl
  s1_3 := fun w h => Go.Proofs.cell_of_shapedOpen_int (zero := #[.int .i64 0]) (t := 3) h (of_decide_eq_true (by kernel_rfl)) (by kernel_rfl) rfl (by kernel_rfl) (by kernel_rfl) Tryz.underlying3 }
open Go.RowKit Go.Lib in
theorem Tryz.strings_Count_shaped (s sub : ByteArray) (w : World) (h : w.ShapedOpen Tryz.prog) (hs : s.size < 4294967281) (h2 : 2 ≤ sub.size) :
    Calls Tryz.prog 153 #[.string s, .string sub] w fun e w' => e = .returned (.int .i64 (Lib.countB s sub)) ∧ w' = w := Any.strings_Count_shaped Tryz.laysM138 s sub w h hs h2
def Tryz.lays206_ren : Go.Shelf.Ren := ⟨fun | 206 => 148 | n => n, fun | 9 => 9 | 4 => 4 | 3 => 3 | n => n, fun | n => n⟩
theorem Tryz.lays206 : Go.Proofs.Lays.n206 Tryz.prog Tryz.lays206_ren := {
  mixed := by kernel_rfl
  f206 := Tryz.func148.trans (congrArg some (by kernel_rfl))
  t3 := Tryz.underlying3
  a3 := Tryz.isAgg3
  z3 := Tryz.sizeOf3
  v3 := Tryz.zeroValue3
  t4 := Tryz.underlying4
  a4 := Tryz.isAgg4
  z4 := Tryz.sizeOf4
  v4 := Tryz.zeroValue4
  t9 := Tryz.underlying9
  a9 := Tryz.isAgg9
  z9 := Tryz.sizeOf9
  v9 := Tryz.zeroValue9 }
open Go.RowKit Go.Lib in
theorem Tryz.stringslite_HasPrefix (s p : ByteArray) (w : World) :
    Calls Tryz.prog 148 #[.string s, .string p] w fun e w' => e = .returned (.bool (Lib.hasPrefix s.data.toList p.data.toList)) ∧ w' = w := Any.stringslite_HasPrefix Tryz.lays206 s p w
def Tryz.lays99_ren : Go.Shelf.Ren := ⟨fun | 99 => 130 | 206 => 148 | n => n, fun | 9 => 9 | 4 => 4 | 3 => 3 | n => n, fun | n => n⟩
theorem Tryz.lays99 : Go.Proofs.Lays.n99 Tryz.prog Tryz.lays99_ren := {
  mixed := by kernel_rfl
  f99 := Tryz.func130.trans (congrArg some (by kernel_rfl))
  f206 := Tryz.func148.trans (congrArg some (by kernel_rfl))
  t3 := Tryz.underlying3
  a3 := Tryz.isAgg3
  z3 := Tryz.sizeOf3
  v3 := Tryz.zeroValue3
  t4 := Tryz.underlying4
  a4 := Tryz.isAgg4
  z4 := Tryz.sizeOf4
  v4 := Tryz.zeroValue4
  t9 := Tryz.underlying9
  a9 := Tryz.isAgg9
  z9 := Tryz.sizeOf9
  v9 := Tryz.zeroValue9 }
open Go.RowKit Go.Lib in
theorem Tryz.strings_HasPrefix (s p : ByteArray) (w : World) :
    Calls Tryz.prog 130 #[.string s, .string p] w fun e w' => e = .returned (.bool (Lib.hasPrefix s.data.toList p.data.toList)) ∧ w' = w := Any.strings_HasPrefix Tryz.lays99 s p w
open Go.RowKit Go.Lib in
theorem Tryz.strings_Count_any (s sep : ByteArray) (m : Int) (w : World) (hs : s.size < 4294967281) (hm : w.cell? ⟨0, 0, none⟩ = some (.int .i64 m)) (h1 : 1 ≤ sep.size) :
    Calls Tryz.prog 153 #[.string s, .string sep] w fun e w' => e = .returned (.int .i64 (Lib.countB s sep)) ∧ w' = w := Any.strings_Count_any Tryz.lays138 s sep m w hs hm h1
def Tryz.lays221_ren : Go.Shelf.Ren := ⟨fun | 221 => 136 | 268 => 152 | 138 => 153 | 143 => 146 | 195 => 163 | 197 => 156 | 218 => 164 | 219 => 160 | 260 => 168 | 217 => 159 | 225 => 174 | 224 => 175 | 267 => 176 | 266 => 173 | 314 => 182 | n => n, fun | 9 => 9 | 3 => 3 | 31 => 62 | 4 => 4 | 0 => 0 | 105 => 139 | 21 => 21 | 5 => 5 | 46 => 152 | 119 => 157 | 139 => 160 | 138 => 159 | 146 => 164 | 51 => 163 | n => n, fun | 1 => 0 | 3 => 1 | 4 => 2 | n => n⟩
theorem Tryz.lays221 : Go.Proofs.Lays.n221 Tryz.prog Tryz.lays221_ren := {
  mixed := by kernel_rfl
  f138 := Tryz.func153.trans (congrArg some (by kernel_rfl))
  f143 := Tryz.func146.trans (congrArg some (by kernel_rfl))
  f195 := Tryz.func163.trans (congrArg some (by kernel_rfl))
  f197 := Tryz.func156.trans (congrArg some (by kernel_rfl))
  f217 := Tryz.func159.trans (congrArg some (by kernel_rfl))
  f218 := Tryz.func164.trans (congrArg some (by kernel_rfl))
  f219 := Tryz.func160.trans (congrArg some (by kernel_rfl))
  f221 := Tryz.func136.trans (congrArg some (by kernel_rfl))
  f224 := Tryz.func175.trans (congrArg some (by kernel_rfl))
  f225 := Tryz.func174.trans (congrArg some (by kernel_rfl))
  f260 := Tryz.func168.trans (congrArg some (by kernel_rfl))
  f266 := Tryz.func173.trans (congrArg some (by kernel_rfl))
  f267 := Tryz.func176.trans (congrArg some (by kernel_rfl))
  f268 := Tryz.func152.trans (congrArg some (by kernel_rfl))
  f314 := Tryz.func182.trans (congrArg some (by kernel_rfl))
  t0 := Tryz.underlying0
  a0 := Tryz.isAgg0
  z0 := Tryz.sizeOf0
  v0 := Tryz.zeroValue0
  t3 := Tryz.underlying3
  a3 := Tryz.isAgg3
  z3 := Tryz.sizeOf3
  v3 := Tryz.zeroValue3
  t4 := Tryz.underlying4
  a4 := Tryz.isAgg4
  z4 := Tryz.sizeOf4
  v4 := Tryz.zeroValue4
  t5 := Tryz.underlying5
  a5 := Tryz.isAgg5
  z5 := Tryz.sizeOf5
  v5 := Tryz.zeroValue5
  t9 := Tryz.underlying9
  a9 := Tryz.isAgg9
  z9 := Tryz.sizeOf9
  v9 := Tryz.zeroValue9
  t21 := Tryz.underlying21
  a21 := Tryz.isAgg21
  z21 := Tryz.sizeOf21
  v21 := Tryz.zeroValue21
  t31 := Tryz.underlying62
  a31 := Tryz.isAgg62
  z31 := Tryz.sizeOf62
  v31 := Tryz.zeroValue62
  t46 := Tryz.underlying152
  a46 := Tryz.isAgg152
  z46 := Tryz.sizeOf152
  v46 := Tryz.zeroValue152
  t51 := Tryz.underlying163
  a51 := Tryz.isAgg163
  z51 := Tryz.sizeOf163
  v51 := Tryz.zeroValue163
  t105 := Tryz.underlying139
  a105 := Tryz.isAgg139
  z105 := Tryz.sizeOf139
  v105 := Tryz.zeroValue139
  t119 := Tryz.underlying157
  a119 := Tryz.isAgg157
  z119 := Tryz.sizeOf157
  t138 := Tryz.underlying159
  a138 := Tryz.isAgg159
  z138 := Tryz.sizeOf159
  v138 := Tryz.zeroValue159
  t139 := Tryz.underlying160
  a139 := Tryz.isAgg160
  z139 := Tryz.sizeOf160
  v139 := Tryz.zeroValue160
  t146 := Tryz.underlying164
  a146 := Tryz.isAgg164
  z146 := Tryz.sizeOf164
  v146 := Tryz.zeroValue164
  g1 := by kernel_rfl
  g3 := by kernel_rfl
  g4 := by kernel_rfl }
open Go.RowKit Go.Lib in
theorem Tryz.strings_genSplit (s sep : ByteArray) (sv : Nat) (n : Int) (N : Nat) (m : Int) (w : World) (hs : s.size < 4294967281) (hm : w.cell? ⟨0, 0, none⟩ = some (.int .i64 m)) (h1 : 1 ≤ sep.size) (hsv : sv ≤ sep.size) (hn0 : n ≠ 0) (hn63 : n ≤ 9223372036854775807) (hN : (N : Int) = min (if n < 0 then (Lib.countB s sep : Int) + 1 else n) ((s.size : Int) + 1)) :
    Calls Tryz.prog 136 #[.string s, .string sep, .int .i64 sv, .int .i64 n] w fun e w' =>
      e = .returned (.slice (some ⟨w.heap.size, 0, none⟩) (Lib.splitB sep sv (N - 1) s).length N) ∧ w' = w.alloc (.cells (Lib.cellsOf (Lib.splitB sep sv (N - 1) s) N) 9) := Any.strings_genSplit Tryz.lays221 (by kernel_rfl) s sep sv n N m w hs hm h1 hsv hn0 hn63 hN
def Tryz.lays146_ren : Go.Shelf.Ren := ⟨fun | 146 => 110 | 221 => 136 | 268 => 152 | 138 => 153 | 143 => 146 | 195 => 163 | 197 => 156 | 218 => 164 | 219 => 160 | 260 => 168 | 217 => 159 | 225 => 174 | 224 => 175 | 267 => 176 | 266 => 173 | 314 => 182 | n => n, fun | 9 => 9 | 31 => 62 | 3 => 3 | 4 => 4 | 0 => 0 | 105 => 139 | 21 => 21 | 5 => 5 | 46 => 152 | 119 => 157 | 139 => 160 | 138 => 159 | 146 => 164 | 51 => 163 | n => n, fun | 1 => 0 | 3 => 1 | 4 => 2 | n => n⟩
theorem Tryz.lays146 : Go.Proofs.Lays.n146 Tryz.prog Tryz.lays146_ren := {
  mixed := by kernel_rfl
  f138 := Tryz.func153.trans (congrArg some (by kernel_rfl))
  f143 := Tryz.func146.trans (congrArg some (by kernel_rfl))
  f146 := Tryz.func110.trans (congrArg some (by kernel_rfl))
  f195 := Tryz.func163.trans (congrArg some (by kernel_rfl))
  f197 := Tryz.func156.trans (congrArg some (by kernel_rfl))
  f217 := Tryz.func159.trans (congrArg some (by kernel_rfl))
  f218 := Tryz.func164.trans (congrArg some (by kernel_rfl))
  f219 := Tryz.func160.trans (congrArg some (by kernel_rfl))
  f221 := Tryz.func136.trans (congrArg some (by kernel_rfl))
  f224 := Tryz.func175.trans (congrArg some (by kernel_rfl))
  f225 := Tryz.func174.trans (congrArg some (by kernel_rfl))
  f260 := Tryz.func168.trans (congrArg some (by kernel_rfl))
  f266 := Tryz.func173.trans (congrArg some (by kernel_rfl))
  f267 := Tryz.func176.trans (congrArg some (by kernel_rfl))
  f268 := Tryz.func152.trans (congrArg some (by kernel_rfl))
  f314 := Tryz.func182.trans (congrArg some (by kernel_rfl))
  t0 := Tryz.underlying0
  a0 := Tryz.isAgg0
  z0 := Tryz.sizeOf0
  v0 := Tryz.zeroValue0
  t3 := Tryz.underlying3
  a3 := Tryz.isAgg3
  z3 := Tryz.sizeOf3
  v3 := Tryz.zeroValue3
  t4 := Tryz.underlying4
  a4 := Tryz.isAgg4
  z4 := Tryz.sizeOf4
  v4 := Tryz.zeroValue4
  t5 := Tryz.underlying5
  a5 := Tryz.isAgg5
  z5 := Tryz.sizeOf5
  v5 := Tryz.zeroValue5
  t9 := Tryz.underlying9
  a9 := Tryz.isAgg9
  z9 := Tryz.sizeOf9
  v9 := Tryz.zeroValue9
  t21 := Tryz.underlying21
  a21 := Tryz.isAgg21
  z21 := Tryz.sizeOf21
  v21 := Tryz.zeroValue21
  t31 := Tryz.underlying62
  a31 := Tryz.isAgg62
  z31 := Tryz.sizeOf62
  v31 := Tryz.zeroValue62
  t46 := Tryz.underlying152
  a46 := Tryz.isAgg152
  z46 := Tryz.sizeOf152
  v46 := Tryz.zeroValue152
  t51 := Tryz.underlying163
  a51 := Tryz.isAgg163
  z51 := Tryz.sizeOf163
  v51 := Tryz.zeroValue163
  t105 := Tryz.underlying139
  a105 := Tryz.isAgg139
  z105 := Tryz.sizeOf139
  v105 := Tryz.zeroValue139
  t119 := Tryz.underlying157
  a119 := Tryz.isAgg157
  z119 := Tryz.sizeOf157
  t138 := Tryz.underlying159
  a138 := Tryz.isAgg159
  z138 := Tryz.sizeOf159
  v138 := Tryz.zeroValue159
  t139 := Tryz.underlying160
  a139 := Tryz.isAgg160
  z139 := Tryz.sizeOf160
  v139 := Tryz.zeroValue160
  t146 := Tryz.underlying164
  a146 := Tryz.isAgg164
  z146 := Tryz.sizeOf164
  v146 := Tryz.zeroValue164
  g1 := by kernel_rfl
  g3 := by kernel_rfl
  g4 := by kernel_rfl }
open Go.RowKit Go.Lib in
theorem Tryz.strings_Split (s sep : ByteArray) (m : Int) (w : World) (hs : s.size < 4294967281) (hm : w.cell? ⟨0, 0, none⟩ = some (.int .i64 m)) (h1 : 1 ≤ sep.size) :
    Calls Tryz.prog 110 #[.string s, .string sep] w fun e w' =>
      e = .returned (.slice (some ⟨w.heap.size, 0, none⟩) (Lib.countB s sep + 1) (Lib.countB s sep + 1)) ∧ w' = w.alloc (.cells ((Lib.splitB sep 0 (Lib.countB s sep) s).map Value.string).toArray 9) := Any.strings_Split Tryz.lays146 (by kernel_rfl) s sep m w hs hm h1
def Tryz.lays154_ren : Go.Shelf.Ren := ⟨fun | 154 => 141 | 138 => 153 | 165 => 132 | 143 => 146 | 166 => 133 | 197 => 156 | 169 => 134 | 195 => 163 | 218 => 164 | 240 => 150 | 241 => 151 | 219 => 160 | 260 => 168 | 276 => 161 | 277 => 162 | 217 => 159 | 225 => 174 | 224 => 175 | 267 => 176 | 266 => 173 | 314 => 182 | n => n, fun | 9 => 9 | 3 => 3 | 4 => 4 | 72 => 122 | 0 => 0 | 76 => 126 | 105 => 139 | 21 => 21 | 5 => 5 | 70 => 119 | 20 => 20 | 37 => 120 | 75 => 125 | 127 => 135 | 164 => 141 | 46 => 152 | 119 => 157 | 139 => 160 | 138 => 159 | 146 => 164 | 51 => 163 | 80 => 128 | n => n, fun | 1 => 0 | 3 => 1 | 4 => 2 | n => n⟩
theorem Tryz.lays154 : Go.Proofs.Lays.n154 Tryz.prog Tryz.lays154_ren := {
  mixed := by kernel_rfl
  f138 := Tryz.func153.trans (congrArg some (by kernel_rfl))
  f143 := Tryz.func146.trans (congrArg some (by kernel_rfl))
  f154 := Tryz.func141.trans (congrArg some (by kernel_rfl))
  f165 := Tryz.func132.trans (congrArg some (by kernel_rfl))
  f166 := Tryz.func133.trans (congrArg some (by kernel_rfl))
  f169 := Tryz.func134.trans (congrArg some (by kernel_rfl))
  f195 := Tryz.func163.trans (congrArg some (by kernel_rfl))
  f197 := Tryz.func156.trans (congrArg some (by kernel_rfl))
  f217 := Tryz.func159.trans (congrArg some (by kernel_rfl))
  f218 := Tryz.func164.trans (congrArg some (by kernel_rfl))
  f219 := Tryz.func160.trans (congrArg some (by kernel_rfl))
  f224 := Tryz.func175.trans (congrArg some (by kernel_rfl))
  f225 := Tryz.func174.trans (congrArg some (by kernel_rfl))
  f240 := Tryz.func150.trans (congrArg some (by kernel_rfl))
  f241 := Tryz.func151.trans (congrArg some (by kernel_rfl))
  f260 := Tryz.func168.trans (congrArg some (by kernel_rfl))
  f266 := Tryz.func173.trans (congrArg some (by kernel_rfl))
  f267 := Tryz.func176.trans (congrArg some (by kernel_rfl))
  f276 := Tryz.func161.trans (congrArg some (by kernel_rfl))
  f277 := Tryz.func162.trans (congrArg some (by kernel_rfl))
  f314 := Tryz.func182.trans (congrArg some (by kernel_rfl))
  t0 := Tryz.underlying0
  a0 := Tryz.isAgg0
  z0 := Tryz.sizeOf0
  v0 := Tryz.zeroValue0
  t3 := Tryz.underlying3
  a3 := Tryz.isAgg3
  z3 := Tryz.sizeOf3
  v3 := Tryz.zeroValue3
  t4 := Tryz.underlying4
  a4 := Tryz.isAgg4
  z4 := Tryz.sizeOf4
  v4 := Tryz.zeroValue4
  t5 := Tryz.underlying5
  a5 := Tryz.isAgg5
  z5 := Tryz.sizeOf5
  v5 := Tryz.zeroValue5
  t9 := Tryz.underlying9
  a9 := Tryz.isAgg9
  z9 := Tryz.sizeOf9
  v9 := Tryz.zeroValue9
  t20 := Tryz.underlying20
  a20 := Tryz.isAgg20
  z20 := Tryz.sizeOf20
  v20 := Tryz.zeroValue20
  t21 := Tryz.underlying21
  a21 := Tryz.isAgg21
  z21 := Tryz.sizeOf21
  v21 := Tryz.zeroValue21
  t37 := Tryz.underlying120
  a37 := Tryz.isAgg120
  z37 := Tryz.sizeOf120
  v37 := Tryz.zeroValue120
  t46 := Tryz.underlying152
  a46 := Tryz.isAgg152
  z46 := Tryz.sizeOf152
  v46 := Tryz.zeroValue152
  t51 := Tryz.underlying163
  a51 := Tryz.isAgg163
  z51 := Tryz.sizeOf163
  v51 := Tryz.zeroValue163
  t70 := Tryz.underlying119
  a70 := Tryz.isAgg119
  z70 := Tryz.sizeOf119
  v70 := Tryz.zeroValue119
  t72 := Tryz.underlying122
  a72 := Tryz.isAgg122
  z72 := Tryz.sizeOf122
  v72 := Tryz.zeroValue122
  t75 := Tryz.underlying125
  a75 := Tryz.isAgg125
  z75 := Tryz.sizeOf125
  v75 := Tryz.zeroValue125
  t76 := Tryz.underlying126
  a76 := Tryz.isAgg126
  z76 := Tryz.sizeOf126
  v76 := Tryz.zeroValue126
  t105 := Tryz.underlying139
  a105 := Tryz.isAgg139
  z105 := Tryz.sizeOf139
  v105 := Tryz.zeroValue139
  t119 := Tryz.underlying157
  a119 := Tryz.isAgg157
  z119 := Tryz.sizeOf157
  t127 := Tryz.underlying135
  a127 := Tryz.isAgg135
  z127 := Tryz.sizeOf135
  v127 := Tryz.zeroValue135
  t138 := Tryz.underlying159
  a138 := Tryz.isAgg159
  z138 := Tryz.sizeOf159
  v138 := Tryz.zeroValue159
  t139 := Tryz.underlying160
  a139 := Tryz.isAgg160
  z139 := Tryz.sizeOf160
  v139 := Tryz.zeroValue160
  t146 := Tryz.underlying164
  a146 := Tryz.isAgg164
  z146 := Tryz.sizeOf164
  v146 := Tryz.zeroValue164
  t164 := Tryz.underlying141
  a164 := Tryz.isAgg141
  z164 := Tryz.sizeOf141
  v164 := Tryz.zeroValue141
  g1 := by kernel_rfl
  g3 := by kernel_rfl
  g4 := by kernel_rfl }
theorem Tryz.Builder_Extra_154 : Builder.Extra Tryz.prog Tryz.lays154_ren := {
  sizeBuilder := by kernel_rfl
  liesBuilder := by kernel_rfl
  t5 := Tryz.underlying5
  a5 := Tryz.isAgg5
  z5 := Tryz.sizeOf5
  v5 := Tryz.zeroValue5
  infoByte := by kernel_rfl
  cellsByte := by kernel_rfl
  sizeByte := by kernel_rfl
  neB5 := by decide }
open Go.RowKit Go.Lib in
theorem Tryz.strings_Replace_some (s old new : ByteArray) (n : Int) (m : Int) (w : World) (hs : s.size < 4294967281) (hm : w.cell? ⟨0, 0, none⟩ = some (.int .i64 m)) (h1 : 1 ≤ old.size) (hne : old ≠ new) (hn0 : n ≠ 0) (hc0 : Lib.countB s old ≠ 0) (hlen : s.size + Lib.countB s old * new.size ≤ 140737488355328) :
    Calls Tryz.prog 141 #[.string s, .string old, .string new, .int .i64 n] w fun e w' =>
      e = .returned (.string ⟨(Lib.replaceK old.data.toList new.data.toList (Lib.replaceNum s.data.toList old.data.toList n) s.data.toList).toArray⟩) ∧ Below w.heap.size w w' := Any.strings_Replace_some Tryz.lays154 Tryz.Builder_Extra_154 s old new n m w hs hm h1 hne hn0 hc0 hlen
open Go.RowKit Go.Lib in
theorem Tryz.strings_Replace_none (s old new : ByteArray) (n : Int) (w : World) (h : old = new ∨ n = 0) :
    Calls Tryz.prog 141 #[.string s, .string old, .string new, .int .i64 n] w fun e w' => e = .returned (.string s) ∧ w' = w := Any.strings_Replace_none Tryz.lays154 s old new n w h
open Go.RowKit Go.Lib in
theorem Tryz.strings_Replace_absent (s old new : ByteArray) (n : Int) (m : Int) (w : World) (hs : s.size < 4294967281) (hm : w.cell? ⟨0, 0, none⟩ = some (.int .i64 m)) (h1 : 1 ≤ old.size) (hne : old ≠ new) (hn0 : n ≠ 0) (hc0 : Lib.countB s old = 0) :
    Calls Tryz.prog 141 #[.string s, .string old, .string new, .int .i64 n] w fun e w' => e = .returned (.string s) ∧ w' = w := Any.strings_Replace_absent Tryz.lays154 s old new n m w hs hm h1 hne hn0 hc0
open Go.RowKit Go.Lib in
theorem Tryz.strings_Replace (s old new : ByteArray) (n : Int) (m : Int) (w : World) (hs : s.size < 4294967281) (hm : w.cell? ⟨0, 0, none⟩ = some (.int .i64 m)) (h1 : 1 ≤ old.size) (hlen : s.size + Lib.countB s old * new.size ≤ 140737488355328) :
    Calls Tryz.prog 141 #[.string s, .string old, .string new, .int .i64 n] w fun e w' =>
      e = .returned (.string ⟨(Lib.replace s.data.toList old.data.toList new.data.toList n).toArray⟩) ∧ Below w.heap.size w w' := Any.strings_Replace Tryz.lays154 Tryz.Builder_Extra_154 s old new n m w hs hm h1 hlen
def Tryz.lays155_ren : Go.Shelf.Ren := ⟨fun | 155 => 114 | 154 => 141 | 138 => 153 | 165 => 132 | 143 => 146 | 166 => 133 | 197 => 156 | 169 => 134 | 195 => 163 | 218 => 164 | 240 => 150 | 241 => 151 | 219 => 160 | 260 => 168 | 276 => 161 | 277 => 162 | 217 => 159 | 225 => 174 | 224 => 175 | 267 => 176 | 266 => 173 | 314 => 182 | n => n, fun | 9 => 9 | 3 => 3 | 4 => 4 | 72 => 122 | 0 => 0 | 76 => 126 | 105 => 139 | 21 => 21 | 5 => 5 | 70 => 119 | 20 => 20 | 37 => 120 | 75 => 125 | 127 => 135 | 164 => 141 | 46 => 152 | 119 => 157 | 139 => 160 | 138 => 159 | 146 => 164 | 51 => 163 | 80 => 128 | n => n, fun | 1 => 0 | 3 => 1 | 4 => 2 | n => n⟩
theorem Tryz.lays155 : Go.Proofs.Lays.n155 Tryz.prog Tryz.lays155_ren := {
  mixed := by kernel_rfl
  f138 := Tryz.func153.trans (congrArg some (by kernel_rfl))
  f143 := Tryz.func146.trans (congrArg some (by kernel_rfl))
  f154 := Tryz.func141.trans (congrArg some (by kernel_rfl))
  f155 := Tryz.func114.trans (congrArg some (by kernel_rfl))
  f165 := Tryz.func132.trans (congrArg some (by kernel_rfl))
  f166 := Tryz.func133.trans (congrArg some (by kernel_rfl))
  f169 := Tryz.func134.trans (congrArg some (by kernel_rfl))
  f195 := Tryz.func163.trans (congrArg some (by kernel_rfl))
  f197 := Tryz.func156.trans (congrArg some (by kernel_rfl))
  f217 := Tryz.func159.trans (congrArg some (by kernel_rfl))
  f218 := Tryz.func164.trans (congrArg some (by kernel_rfl))
  f219 := Tryz.func160.trans (congrArg some (by kernel_rfl))
  f224 := Tryz.func175.trans (congrArg some (by kernel_rfl))
  f225 := Tryz.func174.trans (congrArg some (by kernel_rfl))
  f240 := Tryz.func150.trans (congrArg some (by kernel_rfl))
  f241 := Tryz.func151.trans (congrArg some (by kernel_rfl))
  f260 := Tryz.func168.trans (congrArg some (by kernel_rfl))
  f266 := Tryz.func173.trans (congrArg some (by kernel_rfl))
  f267 := Tryz.func176.trans (congrArg some (by kernel_rfl))
  f276 := Tryz.func161.trans (congrArg some (by kernel_rfl))
  f277 := Tryz.func162.trans (congrArg some (by kernel_rfl))
  f314 := Tryz.func182.trans (congrArg some (by kernel_rfl))
  t0 := Tryz.underlying0
  a0 := Tryz.isAgg0
  z0 := Tryz.sizeOf0
  v0 := Tryz.zeroValue0
  t3 := Tryz.underlying3
  a3 := Tryz.isAgg3
  z3 := Tryz.sizeOf3
  v3 := Tryz.zeroValue3
  t4 := Tryz.underlying4
  a4 := Tryz.isAgg4
  z4 := Tryz.sizeOf4
  v4 := Tryz.zeroValue4
  t5 := Tryz.underlying5
  a5 := Tryz.isAgg5
  z5 := Tryz.sizeOf5
  v5 := Tryz.zeroValue5
  t9 := Tryz.underlying9
  a9 := Tryz.isAgg9
  z9 := Tryz.sizeOf9
  v9 := Tryz.zeroValue9
  t20 := Tryz.underlying20
  a20 := Tryz.isAgg20
  z20 := Tryz.sizeOf20
  v20 := Tryz.zeroValue20
  t21 := Tryz.underlying21
  a21 := Tryz.isAgg21
  z21 := Tryz.sizeOf21
  v21 := Tryz.zeroValue21
  t37 := Tryz.underlying120
  a37 := Tryz.isAgg120
  z37 := Tryz.sizeOf120
  v37 := Tryz.zeroValue120
  t46 := Tryz.underlying152
  a46 := Tryz.isAgg152
  z46 := Tryz.sizeOf152
  v46 := Tryz.zeroValue152
  t51 := Tryz.underlying163
  a51 := Tryz.isAgg163
  z51 := Tryz.sizeOf163
  v51 := Tryz.zeroValue163
  t70 := Tryz.underlying119
  a70 := Tryz.isAgg119
  z70 := Tryz.sizeOf119
  v70 := Tryz.zeroValue119
  t72 := Tryz.underlying122
  a72 := Tryz.isAgg122
  z72 := Tryz.sizeOf122
  v72 := Tryz.zeroValue122
  t75 := Tryz.underlying125
  a75 := Tryz.isAgg125
  z75 := Tryz.sizeOf125
  v75 := Tryz.zeroValue125
  t76 := Tryz.underlying126
  a76 := Tryz.isAgg126
  z76 := Tryz.sizeOf126
  v76 := Tryz.zeroValue126
  t105 := Tryz.underlying139
  a105 := Tryz.isAgg139
  z105 := Tryz.sizeOf139
  v105 := Tryz.zeroValue139
  t119 := Tryz.underlying157
  a119 := Tryz.isAgg157
  z119 := Tryz.sizeOf157
  t127 := Tryz.underlying135
  a127 := Tryz.isAgg135
  z127 := Tryz.sizeOf135
  v127 := Tryz.zeroValue135
  t138 := Tryz.underlying159
  a138 := Tryz.isAgg159
  z138 := Tryz.sizeOf159
  v138 := Tryz.zeroValue159
  t139 := Tryz.underlying160
  a139 := Tryz.isAgg160
  z139 := Tryz.sizeOf160
  v139 := Tryz.zeroValue160
  t146 := Tryz.underlying164
  a146 := Tryz.isAgg164
  z146 := Tryz.sizeOf164
  v146 := Tryz.zeroValue164
  t164 := Tryz.underlying141
  a164 := Tryz.isAgg141
  z164 := Tryz.sizeOf141
  v164 := Tryz.zeroValue141
  g1 := by kernel_rfl
  g3 := by kernel_rfl
  g4 := by kernel_rfl }
theorem Tryz.Builder_Extra_155 : Builder.Extra Tryz.prog Tryz.lays155_ren := {
  sizeBuilder := by kernel_rfl
  liesBuilder := by kernel_rfl
  t5 := Tryz.underlying5
  a5 := Tryz.isAgg5
  z5 := Tryz.sizeOf5
  v5 := Tryz.zeroValue5
  infoByte := by kernel_rfl
  cellsByte := by kernel_rfl
  sizeByte := by kernel_rfl
  neB5 := by decide }
open Go.RowKit Go.Lib in
theorem Tryz.strings_ReplaceAll (s old new : ByteArray) (m : Int) (w : World) (hs : s.size < 4294967281) (hm : w.cell? ⟨0, 0, none⟩ = some (.int .i64 m)) (h1 : 1 ≤ old.size) (hlen : s.size + Lib.countB s old * new.size ≤ 140737488355328) :
    Calls Tryz.prog 114 #[.string s, .string old, .string new] w fun e w' =>
      e = .returned (.string ⟨(Lib.replaceAll s.data.toList old.data.toList new.data.toList).toArray⟩) ∧ Below w.heap.size w w' := Any.strings_ReplaceAll Tryz.lays155 Tryz.Builder_Extra_155 s old new m w hs hm h1 hlen
def Tryz.laysM146_ren : Go.Shelf.Ren := ⟨fun | 146 => 110 | 221 => 136 | 268 => 152 | 138 => 153 | 143 => 146 | 195 => 163 | 197 => 156 | 218 => 164 | 219 => 160 | 260 => 168 | 217 => 159 | 225 => 174 | 224 => 175 | 267 => 176 | 266 => 173 | 314 => 182 | n => n, fun | 9 => 9 | 31 => 62 | 3 => 3 | 4 => 4 | 0 => 0 | 105 => 139 | 21 => 21 | 5 => 5 | 46 => 152 | 119 => 157 | 139 => 160 | 138 => 159 | 146 => 164 | 51 => 163 | n => n, fun | 1 => 0 | 3 => 1 | 4 => 2 | n => n⟩
theorem Tryz.laysM146 : Go.Proofs.LaysM.n146 Tryz.prog Tryz.laysM146_ren := {
  mixed := by kernel_rfl
  f138 := Tryz.func153.trans (congrArg some (by kernel_rfl))
  f143 := Tryz.func146.trans (congrArg some (by kernel_rfl))
  f146 := Tryz.func110.trans (congrArg some (by kernel_rfl))
  f195 := Tryz.func163.trans (congrArg some (by kernel_rfl))
  f197 := Tryz.func156.trans (congrArg some (by kernel_rfl))
  f217 := Tryz.func159.trans (congrArg some (by kernel_rfl))
  f218 := Tryz.func164.trans (congrArg some (by kernel_rfl))
  f219 := Tryz.func160.trans (congrArg some (by kernel_rfl))
  f221 := Tryz.func136.trans (congrArg some (by kernel_rfl))
  f224 := Tryz.func175.trans (congrArg some (by kernel_rfl))
  f225 := Tryz.func174.trans (congrArg some (by kernel_rfl))
  f260 := Tryz.func168.trans (congrArg some (by kernel_rfl))
  f266 := Tryz.func173.trans (congrArg some (by kernel_rfl))
  f267 := Tryz.func176.trans (congrArg some (by kernel_rfl))
  f268 := Tryz.func152.trans (congrArg some (by kernel_rfl))
  f314 := Tryz.func182.trans (congrArg some (by kernel_rfl))
  t0 := Tryz.underlying0
  a0 := Tryz.isAgg0
  z0 := Tryz.sizeOf0
  v0 := Tryz.zeroValue0
  t3 := Tryz.underlying3
  a3 := Tryz.isAgg3
  z3 := Tryz.sizeOf3
  v3 := Tryz.zeroValue3
  t4 := Tryz.underlying4
  a4 := Tryz.isAgg4
  z4 := Tryz.sizeOf4
  v4 := Tryz.zeroValue4
  t5 := Tryz.underlying5
  a5 := Tryz.isAgg5
  z5 := Tryz.sizeOf5
  v5 := Tryz.zeroValue5
  t9 := Tryz.underlying9
  a9 := Tryz.isAgg9
  z9 := Tryz.sizeOf9
  v9 := Tryz.zeroValue9
  t21 := Tryz.underlying21
  a21 := Tryz.isAgg21
  z21 := Tryz.sizeOf21
  v21 := Tryz.zeroValue21
  t31 := Tryz.underlying62
  a31 := Tryz.isAgg62
  z31 := Tryz.sizeOf62
  v31 := Tryz.zeroValue62
  t46 := Tryz.underlying152
  a46 := Tryz.isAgg152
  z46 := Tryz.sizeOf152
  v46 := Tryz.zeroValue152
  t51 := Tryz.underlying163
  a51 := Tryz.isAgg163
  z51 := Tryz.sizeOf163
  v51 := Tryz.zeroValue163
  t105 := Tryz.underlying139
  a105 := Tryz.isAgg139
  z105 := Tryz.sizeOf139
  v105 := Tryz.zeroValue139
  t119 := Tryz.underlying157
  a119 := Tryz.isAgg157
  z119 := Tryz.sizeOf157
  t138 := Tryz.underlying159
  a138 := Tryz.isAgg159
  z138 := Tryz.sizeOf159
  v138 := Tryz.zeroValue159
  t139 := Tryz.underlying160
  a139 := Tryz.isAgg160
  z139 := Tryz.sizeOf160
  v139 := Tryz.zeroValue160
  t146 := Tryz.underlying164
  a146 := Tryz.isAgg164
  z146 := Tryz.sizeOf164
  v146 := Tryz.zeroValue164
  g1 := by kernel_rfl
  g3 := by kernel_rfl
  g4 := by kernel_rfl
  i0 := by kernel_rfl
  i3 := by kernel_rfl
  i4 := by kernel_rfl
  i5 := by kernel_rfl
  i9 := by kernel_rfl
  i21 := by kernel_rfl
  i31 := by kernel_rfl
  i46 := by kernel_rfl
  i51 := by kernel_rfl
  i105 := by kernel_rfl
  i138 := by kernel_rfl
  i139 := by kernel_rfl
  i146 := by kernel_rfl
  m1 := by kernel_rfl
  s1_3 := fun w h => Go.Proofs.cell_of_shapedOpen_int (zero := #[.int .i64 0]) (t := 3) h (of_decide_eq_true (by kernel_rfl)) (by kernel_rfl) rfl (by kernel_rfl) (by kernel_rfl) Tryz.underlying3
  m3 := by kernel_rfl
  m4 := by kernel_rfl }
open Go.RowKit Go.Lib in
theorem Tryz.strings_Split_shaped (s sep : ByteArray) (w : World) (h : w.ShapedOpen Tryz.prog) (hs : s.size < 4294967281) (h1 : 1 ≤ sep.size) :
    Calls Tryz.prog 110 #[.string s, .string sep] w fun e w' =>
      e = .returned (.slice (some ⟨w.heap.size, 0, none⟩) (Lib.countB s sep + 1) (Lib.countB s sep + 1)) ∧ w' = w.alloc (.cells ((Lib.splitB sep 0 (Lib.countB s sep) s).map Value.string).toArray 9) := Any.strings_Split_shaped Tryz.laysM146 s sep w h hs h1
def Tryz.laysM154_ren : Go.Shelf.Ren := ⟨fun | 154 => 141 | 138 => 153 | 165 => 132 | 143 => 146 | 166 => 133 | 197 => 156 | 169 => 134 | 195 => 163 | 218 => 164 | 240 => 150 | 241 => 151 | 219 => 160 | 260 => 168 | 276 => 161 | 277 => 162 | 217 => 159 | 225 => 174 | 224 => 175 | 267 => 176 | 266 => 173 | 314 => 182 | n => n, fun | 9 => 9 | 3 => 3 | 4 => 4 | 72 => 122 | 0 => 0 | 76 => 126 | 105 => 139 | 21 => 21 | 5 => 5 | 70 => 119 | 20 => 20 | 37 => 120 | 75 => 125 | 127 => 135 | 164 => 141 | 46 => 152 | 119 => 157 | 139 => 160 | 138 => 159 | 146 => 164 | 51 => 163 | 80 => 128 | n => n, fun | 1 => 0 | 3 => 1 | 4 => 2 | n => n⟩
theorem Tryz.laysM154 : Go.Proofs.LaysM.n154 Tryz.prog Tryz.laysM154_ren := {
  mixed := by kernel_rfl
  f138 := Tryz.func153.trans (congrArg some (by kernel_rfl))
  f143 := Tryz.func146.trans (congrArg some (by kernel_rfl))
  f154 := Tryz.func141.trans (congrArg some (by kernel_rfl))
  f165 := Tryz.func132.trans (congrArg some (by kernel_rfl))
  f166 := Tryz.func133.trans (congrArg some (by kernel_rfl))
  f169 := Tryz.func134.trans (congrArg some (by kernel_rfl))
  f195 := Tryz.func163.trans (congrArg some (by kernel_rfl))
  f197 := Tryz.func156.trans (congrArg some (by kernel_rfl))
  f217 := Tryz.func159.trans (congrArg some (by kernel_rfl))
  f218 := Tryz.func164.trans (congrArg some (by kernel_rfl))
  f219 := Tryz.func160.trans (congrArg some (by kernel_rfl))
  f224 := Tryz.func175.trans (congrArg some (by kernel_rfl))
  f225 := Tryz.func174.trans (congrArg some (by kernel_rfl))
  f240 := Tryz.func150.trans (congrArg some (by kernel_rfl))
  f241 := Tryz.func151.trans (congrArg some (by kernel_rfl))
  f260 := Tryz.func168.trans (congrArg some (by kernel_rfl))
  f266 := Tryz.func173.trans (congrArg some (by kernel_rfl))
  f267 := Tryz.func176.trans (congrArg some (by kernel_rfl))
  f276 := Tryz.func161.trans (congrArg some (by kernel_rfl))
  f277 := Tryz.func162.trans (congrArg some (by kernel_rfl))
  f314 := Tryz.func182.trans (congrArg some (by kernel_rfl))
  t0 := Tryz.underlying0
  a0 := Tryz.isAgg0
  z0 := Tryz.sizeOf0
  v0 := Tryz.zeroValue0
  t3 := Tryz.underlying3
  a3 := Tryz.isAgg3
  z3 := Tryz.sizeOf3
  v3 := Tryz.zeroValue3
  t4 := Tryz.underlying4
  a4 := Tryz.isAgg4
  z4 := Tryz.sizeOf4
  v4 := Tryz.zeroValue4
  t5 := Tryz.underlying5
  a5 := Tryz.isAgg5
  z5 := Tryz.sizeOf5
  v5 := Tryz.zeroValue5
  t9 := Tryz.underlying9
  a9 := Tryz.isAgg9
  z9 := Tryz.sizeOf9
  v9 := Tryz.zeroValue9
  t20 := Tryz.underlying20
  a20 := Tryz.isAgg20
  z20 := Tryz.sizeOf20
  v20 := Tryz.zeroValue20
  t21 := Tryz.underlying21
  a21 := Tryz.isAgg21
  z21 := Tryz.sizeOf21
  v21 := Tryz.zeroValue21
  t37 := Tryz.underlying120
  a37 := Tryz.isAgg120
  z37 := Tryz.sizeOf120
  v37 := Tryz.zeroValue120
  t46 := Tryz.underlying152
  a46 := Tryz.isAgg152
  z46 := Tryz.sizeOf152
  v46 := Tryz.zeroValue152
  t51 := Tryz.underlying163
  a51 := Tryz.isAgg163
  z51 := Tryz.sizeOf163
  v51 := Tryz.zeroValue163
  t70 := Tryz.underlying119
  a70 := Tryz.isAgg119
  z70 := Tryz.sizeOf119
  v70 := Tryz.zeroValue119
  t72 := Tryz.underlying122
  a72 := Tryz.isAgg122
  z72 := Tryz.sizeOf122
  v72 := Tryz.zeroValue122
  t75 := Tryz.underlying125
  a75 := Tryz.isAgg125
  z75 := Tryz.sizeOf125
  v75 := Tryz.zeroValue125
  t76 := Tryz.underlying126
  a76 := Tryz.isAgg126
  z76 := Tryz.sizeOf126
  v76 := Tryz.zeroValue126
  t105 := Tryz.underlying139
  a105 := Tryz.isAgg139
  z105 := Tryz.sizeOf139
  v105 := Tryz.zeroValue139
  t119 := Tryz.underlying157
  a119 := Tryz.isAgg157
  z119 := Tryz.sizeOf157
  t127 := Tryz.underlying135
  a127 := Tryz.isAgg135
  z127 := Tryz.sizeOf135
  v127 := Tryz.zeroValue135
  t138 := Tryz.underlying159
  a138 := Tryz.isAgg159
  z138 := Tryz.sizeOf159
  v138 := Tryz.zeroValue159
  t139 := Tryz.underlying160
  a139 := Tryz.isAgg160
  z139 := Tryz.sizeOf160
  v139 := Tryz.zeroValue160
  t146 := Tryz.underlying164
  a146 := Tryz.isAgg164
  z146 := Tryz.sizeOf164
  v146 := Tryz.zeroValue164
  t164 := Tryz.underlying141
  a164 := Tryz.isAgg141
  z164 := Tryz.sizeOf141
  v164 := Tryz.zeroValue141
  g1 := by kernel_rfl
  g3 := by kernel_rfl
  g4 := by kernel_rfl
  t80 := Tryz.underlying128
  a80 := Tryz.isAgg128
  z80 := Tryz.sizeOf128
  v80 := Tryz.zeroValue128
  i0 := by kernel_rfl
  i3 := by kernel_rfl
  i4 := by kernel_rfl
  i5 := by kernel_rfl
  i9 := by kernel_rfl
  i20 := by kernel_rfl
  i21 := by kernel_rfl
  i37 := by kernel_rfl
  i46 := by kernel_rfl
  i51 := by kernel_rfl
  i70 := by kernel_rfl
  i72 := by kernel_rfl
  i75 := by kernel_rfl
  i76 := by kernel_rfl
  i80 := by kernel_rfl
  i105 := by kernel_rfl
  i127 := by kernel_rfl
  i138 := by kernel_rfl
  i139 := by kernel_rfl
  i146 := by kernel_rfl
  i164 := by kernel_rfl
  m1 := by kernel_rfl
  s1_3 := fun w h => Go.Proofs.cell_of_shapedOpen_int (zero := #[.int .i64 0]) (t := 3) h (of_decide_eq_true (by kernel_rfl)) (by kernel_rfl) rfl (by kernel_rfl) (by kernel_rfl) Tryz.underlying3
  m3 := by kernel_rfl
  m4 := by kernel_rfl }
theorem Tryz.Builder_Extra_M154 : Builder.Extra Tryz.prog Tryz.laysM154_ren := {
  sizeBuilder := by kernel_rfl
  liesBuilder := by kernel_rfl
  t5 := Tryz.underlying5
  a5 := Tryz.isAgg5
  z5 := Tryz.sizeOf5
  v5 := Tryz.zeroValue5
  infoByte := by kernel_rfl
  cellsByte := by kernel_rfl
  sizeByte := by kernel_rfl
  neB5 := by decide }
open Go.RowKit Go.Lib in
theorem Tryz.strings_Replace_shaped (s old new : ByteArray) (n : Int) (w : World) (h : w.ShapedOpen Tryz.prog) (hs : s.size < 4294967281) (h1 : 1 ≤ old.size) (hlen : s.size + Lib.countB s old * new.size ≤ 140737488355328) :
    Calls Tryz.prog 141 #[.string s, .string old, .string new, .int .i64 n] w fun e w' =>
      e = .returned (.string ⟨(Lib.replace s.data.toList old.data.toList new.data.toList n).toArray⟩) ∧ Below w.heap.size w w' := Any.strings_Replace_shaped Tryz.laysM154 Tryz.Builder_Extra_M154 s old new n w h hs h1 hlen
def Tryz.laysM155_ren : Go.Shelf.Ren := ⟨fun | 155 => 114 | 154 => 141 | 138 => 153 | 165 => 132 | 143 => 146 | 166 => 133 | 197 => 156 | 169 => 134 | 195 => 163 | 218 => 164 | 240 => 150 | 241 => 151 | 219 => 160 | 260 => 168 | 276 => 161 | 277 => 162 | 217 => 159 | 225 => 174 | 224 => 175 | 267 => 176 | 266 => 173 | 314 => 182 | n => n, fun | 9 => 9 | 3 => 3 | 4 => 4 | 72 => 122 | 0 => 0 | 76 => 126 | 105 => 139 | 21 => 21 | 5 => 5 | 70 => 119 | 20 => 20 | 37 => 120 | 75 => 125 | 127 => 135 | 164 => 141 | 46 => 152 | 119 => 157 | 139 => 160 | 138 => 159 | 146 => 164 | 51 => 163 | 80 => 128 | n => n, fun | 1 => 0 | 3 => 1 | 4 => 2 | n => n⟩
theorem Tryz.laysM155 : Go.Proofs.LaysM.n155 Tryz.prog Tryz.laysM155_ren := {
  mixed := by kernel_rfl
  f138 := Tryz.func153.trans (congrArg some (by kernel_rfl))
  f143 := Tryz.func146.trans (congrArg some (by kernel_rfl))
  f154 := Tryz.func141.trans (congrArg some (by kernel_rfl))
  f155 := Tryz.func114.trans (congrArg some (by kernel_rfl))
  f165 := Tryz.func132.trans (congrArg some (by kernel_rfl))
  f166 := Tryz.func133.trans (congrArg some (by kernel_rfl))
  f169 := Tryz.func134.trans (congrArg some (by kernel_rfl))
  f195 := Tryz.func163.trans (congrArg some (by kernel_rfl))
  f197 := Tryz.func156.trans (congrArg some (by kernel_rfl))
  f217 := Tryz.func159.trans (congrArg some (by kernel_rfl))
  f218 := Tryz.func164.trans (congrArg some (by kernel_rfl))
  f219 := Tryz.func160.trans (congrArg some (by kernel_rfl))
  f224 := Tryz.func175.trans (congrArg some (by kernel_rfl))
  f225 := Tryz.func174.trans (congrArg some (by kernel_rfl))
  f240 := Tryz.func150.trans (congrArg some (by kernel_rfl))
  f241 := Tryz.func151.trans (congrArg some (by kernel_rfl))
  f260 := Tryz.func168.trans (congrArg some (by kernel_rfl))
  f266 := Tryz.func173.trans (congrArg some (by kernel_rfl))
  f267 := Tryz.func176.trans (congrArg some (by kernel_rfl))
  f276 := Tryz.func161.trans (congrArg some (by kernel_rfl))
  f277 := Tryz.func162.trans (congrArg some (by kernel_rfl))
  f314 := Tryz.func182.trans (congrArg some (by kernel_rfl))
  t0 := Tryz.underlying0
  a0 := Tryz.isAgg0
  z0 := Tryz.sizeOf0
  v0 := Tryz.zeroValue0
  t3 := Tryz.underlying3
  a3 := Tryz.isAgg3
  z3 := Tryz.sizeOf3
  v3 := Tryz.zeroValue3
  t4 := Tryz.underlying4
  a4 := Tryz.isAgg4
  z4 := Tryz.sizeOf4
  v4 := Tryz.zeroValue4
  t5 := Tryz.underlying5
  a5 := Tryz.isAgg5
  z5 := Tryz.sizeOf5
  v5 := Tryz.zeroValue5
  t9 := Tryz.underlying9
  a9 := Tryz.isAgg9
  z9 := Tryz.sizeOf9
  v9 := Tryz.zeroValue9
  t20 := Tryz.underlying20
  a20 := Tryz.isAgg20
  z20 := Tryz.sizeOf20
  v20 := Tryz.zeroValue20
  t21 := Tryz.underlying21
  a21 := Tryz.isAgg21
  z21 := Tryz.sizeOf21
  v21 := Tryz.zeroValue21
  t37 := Tryz.underlying120
  a37 := Tryz.isAgg120
  z37 := Tryz.sizeOf120
  v37 := Tryz.zeroValue120
  t46 := Tryz.underlying152
  a46 := Tryz.isAgg152
  z46 := Tryz.sizeOf152
  v46 := Tryz.zeroValue152
  t51 := Tryz.underlying163
  a51 := Tryz.isAgg163
  z51 := Tryz.sizeOf163
  v51 := Tryz.zeroValue163
  t70 := Tryz.underlying119
  a70 := Tryz.isAgg119
  z70 := Tryz.sizeOf119
  v70 := Tryz.zeroValue119
  t72 := Tryz.underlying122
  a72 := Tryz.isAgg122
  z72 := Tryz.sizeOf122
  v72 := Tryz.zeroValue122
  t75 := Tryz.underlying125
  a75 := Tryz.isAgg125
  z75 := Tryz.sizeOf125
  v75 := Tryz.zeroValue125
  t76 := Tryz.underlying126
  a76 := Tryz.isAgg126
  z76 := Tryz.sizeOf126
  v76 := Tryz.zeroValue126
  t105 := Tryz.underlying139
  a105 := Tryz.isAgg139
  z105 := Tryz.sizeOf139
  v105 := Tryz.zeroValue139
  t119 := Tryz.underlying157
  a119 := Tryz.isAgg157
  z119 := Tryz.sizeOf157
  t127 := Tryz.underlying135
  a127 := Tryz.isAgg135
  z127 := Tryz.sizeOf135
  v127 := Tryz.zeroValue135
  t138 := Tryz.underlying159
  a138 := Tryz.isAgg159
  z138 := Tryz.sizeOf159
  v138 := Tryz.zeroValue159
  t139 := Tryz.underlying160
  a139 := Tryz.isAgg160
  z139 := Tryz.sizeOf160
  v139 := Tryz.zeroValue160
  t146 := Tryz.underlying164
  a146 := Tryz.isAgg164
  z146 := Tryz.sizeOf164
  v146 := Tryz.zeroValue164
  t164 := Tryz.underlying141
  a164 := Tryz.isAgg141
  z164 := Tryz.sizeOf141
  v164 := Tryz.zeroValue141
  g1 := by kernel_rfl
  g3 := by kernel_rfl
  g4 := by kernel_rfl
  t80 := Tryz.underlying128
  a80 := Tryz.isAgg128
  z80 := Tryz.sizeOf128
  v80 := Tryz.zeroValue128
  i0 := by kernel_rfl
  i3 := by kernel_rfl
  i4 := by kernel_rfl
  i5 := by kernel_rfl
  i9 := by kernel_rfl
  i20 := by kernel_rfl
  i21 := by kernel_rfl
  i37 := by kernel_rfl
  i46 := by kernel_rfl
  i51 := by kernel_rfl
  i70 := by kernel_rfl
  i72 := by kernel_rfl
  i75 := by kernel_rfl
  i76 := by kernel_rfl
  i80 := by kernel_rfl
  i105 := by kernel_rfl
  i127 := by kernel_rfl
  i138 := by kernel_rfl
  i139 := by kernel_rfl
  i146 := by kernel_rfl
  i164 := by kernel_rfl
  m1 := by kernel_rfl
  s1_3 := fun w h => Go.Proofs.cell_of_shapedOpen_int (zero := #[.int .i64 0]) (t := 3) h (of_decide_eq_true (by kernel_rfl)) (by kernel_rfl) rfl (by kernel_rfl) (by kernel_rfl) Tryz.underlying3
  m3 := by kernel_rfl
  m4 := by kernel_rfl }
theorem Tryz.Builder_Extra_M155 : Builder.Extra Tryz.prog Tryz.laysM155_ren := {
  sizeBuilder := by kernel_rfl
  liesBuilder := by kernel_rfl
  t5 := Tryz.underlying5
  a5 := Tryz.isAgg5
  z5 := Tryz.sizeOf5
  v5 := Tryz.zeroValue5
  infoByte := by kernel_rfl
  cellsByte := by kernel_rfl
  sizeByte := by kernel_rfl
  neB5 := by decide }
open Go.RowKit Go.Lib in
theorem Tryz.strings_ReplaceAll_shaped (s old new : ByteArray) (w : World) (h : w.ShapedOpen Tryz.prog) (hs : s.size < 4294967281) (h1 : 1 ≤ old.size) (hlen : s.size + Lib.countB s old * new.size ≤ 140737488355328) :
    Calls Tryz.prog 114 #[.string s, .string old, .string new] w fun e w' =>
      e = .returned (.string ⟨(Lib.replaceAll s.data.toList old.data.toList new.data.toList).toArray⟩) ∧ Below w.heap.size w w' := Any.strings_ReplaceAll_shaped Tryz.laysM155 Tryz.Builder_Extra_M155 s old new w h hs h1 hlen
def Tryz.lays204_ren : Go.Shelf.Ren := ⟨fun | 204 => 167 | 262 => 180 | 313 => 184 | 274 => 186 | 275 => 187 | n => n, fun | 21 => 21 | 4 => 4 | 3 => 3 | 162 => 169 | 203 => 167 | 160 => 170 | 46 => 152 | 0 => 0 | 208 => 176 | 51 => 163 | 206 => 174 | n => n, fun | 13 => 3 | n => n⟩
theorem Tryz.lays204 : Go.Proofs.Lays.n204 Tryz.prog Tryz.lays204_ren := {
  mixed := by kernel_rfl
  f204 := Tryz.func167.trans (congrArg some (by kernel_rfl))
  f262 := Tryz.func180.trans (congrArg some (by kernel_rfl))
  f274 := Tryz.func186.trans (congrArg some (by kernel_rfl))
  f275 := Tryz.func187.trans (congrArg some (by kernel_rfl))
  f313 := Tryz.func184.trans (congrArg some (by kernel_rfl))
  t0 := Tryz.underlying0
  a0 := Tryz.isAgg0
  z0 := Tryz.sizeOf0
  v0 := Tryz.zeroValue0
  t3 := Tryz.underlying3
  a3 := Tryz.isAgg3
  z3 := Tryz.sizeOf3
  v3 := Tryz.zeroValue3
  t4 := Tryz.underlying4
  a4 := Tryz.isAgg4
  z4 := Tryz.sizeOf4
  v4 := Tryz.zeroValue4
  t21 := Tryz.underlying21
  a21 := Tryz.isAgg21
  z21 := Tryz.sizeOf21
  v21 := Tryz.zeroValue21
  t46 := Tryz.underlying152
  a46 := Tryz.isAgg152
  z46 := Tryz.sizeOf152
  v46 := Tryz.zeroValue152
  t51 := Tryz.underlying163
  a51 := Tryz.isAgg163
  z51 := Tryz.sizeOf163
  v51 := Tryz.zeroValue163
  t160 := Tryz.underlying170
  a160 := Tryz.isAgg170
  z160 := Tryz.sizeOf170
  v160 := Tryz.zeroValue170
  t162 := Tryz.underlying169
  a162 := Tryz.isAgg169
  z162 := Tryz.sizeOf169
  v162 := Tryz.zeroValue169
  t203 := Tryz.underlying167
  a203 := Tryz.isAgg167
  z203 := Tryz.sizeOf167
  v203 := Tryz.zeroValue167
  t206 := Tryz.underlying174
  a206 := Tryz.isAgg174
  z206 := Tryz.sizeOf174
  v206 := Tryz.zeroValue174
  t208 := Tryz.underlying176
  a208 := Tryz.isAgg176
  z208 := Tryz.sizeOf176
  v208 := Tryz.zeroValue176
  g13 := by kernel_rfl }
open Go.RowKit Go.Lib in
theorem Tryz.unicode_ToLower (r : Int) (w : World) (h : r ≤ 127) :
    Calls Tryz.prog 167 #[.int .i32 r] w fun e w' => e = .returned (.int .i32 (Lib.toLowerR r)) ∧ w' = w := Any.unicode_ToLower Tryz.lays204 r w h
def Tryz.lays152_ren : Go.Shelf.Ren := ⟨fun | 152 => 169 | 137 => 145 | 119 => 181 | 224 => 175 | 225 => 174 | 217 => 159 | 266 => 173 | n => n, fun | 9 => 9 | 21 => 21 | 3 => 3 | 4 => 4 | 5 => 5 | 0 => 0 | 46 => 152 | n => n, fun | n => n⟩
theorem Tryz.lays152 : Go.Proofs.Lays.n152 Tryz.prog Tryz.lays152_ren := {
  mixed := by kernel_rfl
  f119 := Tryz.func181.trans (congrArg some (by kernel_rfl))
  f137 := Tryz.func145.trans (congrArg some (by kernel_rfl))
  f152 := Tryz.func169.trans (congrArg some (by kernel_rfl))
  f217 := Tryz.func159.trans (congrArg some (by kernel_rfl))
  f224 := Tryz.func175.trans (congrArg some (by kernel_rfl))
  f225 := Tryz.func174.trans (congrArg some (by kernel_rfl))
  f266 := Tryz.func173.trans (congrArg some (by kernel_rfl))
  t0 := Tryz.underlying0
  a0 := Tryz.isAgg0
  z0 := Tryz.sizeOf0
  v0 := Tryz.zeroValue0
  t3 := Tryz.underlying3
  a3 := Tryz.isAgg3
  z3 := Tryz.sizeOf3
  v3 := Tryz.zeroValue3
  t4 := Tryz.underlying4
  a4 := Tryz.isAgg4
  z4 := Tryz.sizeOf4
  v4 := Tryz.zeroValue4
  t5 := Tryz.underlying5
  a5 := Tryz.isAgg5
  z5 := Tryz.sizeOf5
  v5 := Tryz.zeroValue5
  t9 := Tryz.underlying9
  a9 := Tryz.isAgg9
  z9 := Tryz.sizeOf9
  v9 := Tryz.zeroValue9
  t21 := Tryz.underlying21
  a21 := Tryz.isAgg21
  z21 := Tryz.sizeOf21
  v21 := Tryz.zeroValue21
  t46 := Tryz.underlying152
  a46 := Tryz.isAgg152
  z46 := Tryz.sizeOf152
  v46 := Tryz.zeroValue152 }
open Go.RowKit Go.Lib in
theorem Tryz.strings_IndexRune_ascii (s : ByteArray) (r : Int) (w : World) (h0 : 0 ≤ r) (h1 : r < 128) :
    Calls Tryz.prog 169 #[.string s, .int .i32 r] w fun e w' => e = .returned (.int .i64 (Lib.indexByte s.data.toList r.toNat.toUInt8)) ∧ w' = w := Any.strings_IndexRune_ascii Tryz.lays152 s r w h0 h1
def Tryz.lays226_ren : Go.Shelf.Ren := ⟨fun | 226 => 170 | n => n, fun | 3 => 3 | 4 => 4 | n => n, fun | n => n⟩
theorem Tryz.lays226 : Go.Proofs.Lays.n226 Tryz.prog Tryz.lays226_ren := {
  mixed := by kernel_rfl
  f226 := Tryz.func170.trans (congrArg some (by kernel_rfl))
  t3 := Tryz.underlying3
  a3 := Tryz.isAgg3
  z3 := Tryz.sizeOf3
  v3 := Tryz.zeroValue3
  t4 := Tryz.underlying4
  a4 := Tryz.isAgg4
  z4 := Tryz.sizeOf4
  v4 := Tryz.zeroValue4 }
open Go.RowKit Go.Lib in
theorem Tryz.strings_shouldUseASCIISet (n : Int) (w : World) :
    Calls Tryz.prog 170 #[.int .i64 n] w fun e w' => e = .returned (.bool (decide (8 < n))) ∧ w' = w := Any.strings_shouldUseASCIISet Tryz.lays226 n w
def Tryz.lays153_ren : Go.Shelf.Ren := ⟨fun | 153 => 157 | 152 => 169 | 226 => 170 | 227 => 171 | 228 => 172 | 137 => 145 | 119 => 181 | 224 => 175 | 225 => 174 | 217 => 159 | 266 => 173 | n => n, fun | 9 => 9 | 3 => 3 | 4 => 4 | 5 => 5 | 21 => 21 | 117 => 149 | 116 => 148 | 0 => 0 | 46 => 152 | 124 => 162 | n => n, fun | n => n⟩
theorem Tryz.lays153 : Go.Proofs.Lays.n153 Tryz.prog Tryz.lays153_ren := {
  mixed := by kernel_rfl
  f119 := Tryz.func181.trans (congrArg some (by kernel_rfl))
  f137 := Tryz.func145.trans (congrArg some (by kernel_rfl))
  f152 := Tryz.func169.trans (congrArg some (by kernel_rfl))
  f153 := Tryz.func157.trans (congrArg some (by kernel_rfl))
  f217 := Tryz.func159.trans (congrArg some (by kernel_rfl))
  f224 := Tryz.func175.trans (congrArg some (by kernel_rfl))
  f225 := Tryz.func174.trans (congrArg some (by kernel_rfl))
  f226 := Tryz.func170.trans (congrArg some (by kernel_rfl))
  f227 := Tryz.func171.trans (congrArg some (by kernel_rfl))
  f228 := Tryz.func172.trans (congrArg some (by kernel_rfl))
  f266 := Tryz.func173.trans (congrArg some (by kernel_rfl))
  t0 := Tryz.underlying0
  a0 := Tryz.isAgg0
  z0 := Tryz.sizeOf0
  v0 := Tryz.zeroValue0
  t3 := Tryz.underlying3
  a3 := Tryz.isAgg3
  z3 := Tryz.sizeOf3
  v3 := Tryz.zeroValue3
  t4 := Tryz.underlying4
  a4 := Tryz.isAgg4
  z4 := Tryz.sizeOf4
  v4 := Tryz.zeroValue4
  t5 := Tryz.underlying5
  a5 := Tryz.isAgg5
  z5 := Tryz.sizeOf5
  v5 := Tryz.zeroValue5
  t9 := Tryz.underlying9
  a9 := Tryz.isAgg9
  z9 := Tryz.sizeOf9
  v9 := Tryz.zeroValue9
  t21 := Tryz.underlying21
  a21 := Tryz.isAgg21
  z21 := Tryz.sizeOf21
  v21 := Tryz.zeroValue21
  t46 := Tryz.underlying152
  a46 := Tryz.isAgg152
  z46 := Tryz.sizeOf152
  v46 := Tryz.zeroValue152
  t116 := Tryz.underlying148
  a116 := Tryz.isAgg148
  z116 := Tryz.sizeOf148
  t117 := Tryz.underlying149
  a117 := Tryz.isAgg149
  z117 := Tryz.sizeOf149
  v117 := Tryz.zeroValue149
  t124 := Tryz.underlying162
  a124 := Tryz.isAgg162
  z124 := Tryz.sizeOf162
  v124 := Tryz.zeroValue162 }
open Go.RowKit Go.Lib in
theorem Tryz.strings_IndexAny_none (s chars : ByteArray) (w : World) (h0 : chars.size = 0) :
    Calls Tryz.prog 157 #[.string s, .string chars] w fun e w' => e = .returned (.int .i64 (Lib.indexAny s.data.toList chars.data.toList)) ∧ w' = w := Any.strings_IndexAny_none Tryz.lays153 s chars w h0
open Go.RowKit Go.Lib in
theorem Tryz.strings_IndexAny_one (s chars : ByteArray) (w : World) (h1 : chars.size = 1) (hascii : ∀ (j : Nat) b, chars.data.toList[j]? = some b → b.toNat < 128) :
    Calls Tryz.prog 157 #[.string s, .string chars] w fun e w' => e = .returned (.int .i64 (Lib.indexAny s.data.toList chars.data.toList)) ∧ w' = w := Any.strings_IndexAny_one Tryz.lays153 s chars w h1 hascii
open Go.RowKit Go.Lib in
theorem Tryz.strings_IndexAny_short (s chars : ByteArray) (w : World) (h2 : 2 ≤ chars.size) (h8 : s.size ≤ 8) (hascii : ∀ (j : Nat) b, s.data.toList[j]? = some b → b.toNat < 128) :
    Calls Tryz.prog 157 #[.string s, .string chars] w fun e w' => e = .returned (.int .i64 (Lib.indexAny s.data.toList chars.data.toList)) ∧ ∃ pos, w' = w.iter s pos := Any.strings_IndexAny_short Tryz.lays153 s chars w h2 h8 hascii
def Tryz.lays227_ren : Go.Shelf.Ren := ⟨fun | 227 => 171 | n => n, fun | 9 => 9 | 116 => 148 | 4 => 4 | 0 => 0 | 3 => 3 | 5 => 5 | n => n, fun | n => n⟩
theorem Tryz.lays227 : Go.Proofs.Lays.n227 Tryz.prog Tryz.lays227_ren := {
  mixed := by kernel_rfl
  f227 := Tryz.func171.trans (congrArg some (by kernel_rfl))
  t0 := Tryz.underlying0
  a0 := Tryz.isAgg0
  z0 := Tryz.sizeOf0
  v0 := Tryz.zeroValue0
  t3 := Tryz.underlying3
  a3 := Tryz.isAgg3
  z3 := Tryz.sizeOf3
  v3 := Tryz.zeroValue3
  t4 := Tryz.underlying4
  a4 := Tryz.isAgg4
  z4 := Tryz.sizeOf4
  v4 := Tryz.zeroValue4
  t5 := Tryz.underlying5
  a5 := Tryz.isAgg5
  z5 := Tryz.sizeOf5
  v5 := Tryz.zeroValue5
  t9 := Tryz.underlying9
  a9 := Tryz.isAgg9
  z9 := Tryz.sizeOf9
  v9 := Tryz.zeroValue9
  t116 := Tryz.underlying148
  a116 := Tryz.isAgg148
  z116 := Tryz.sizeOf148 }
open Go.RowKit Go.Lib in
theorem Tryz.strings_makeASCIISet (hv116 : ∀ w, (zeroValue 148).run Tryz.prog w = .ok (.agg (Array.replicate 256 (.bool false))) w) (chars : ByteArray) (w : World) (hs : chars.size < 4294967281) (hascii : ∀ (j : Nat) b, chars.data.toList[j]? = some b → b.toNat < 128) :
    Calls Tryz.prog 171 #[.string chars] w fun e w' => e = .returned (.tuple #[.agg (Lib.setCells chars.data.toList), .bool true]) ∧ w' = w.alloc (.cells (Lib.setCells chars.data.toList) 148) := Any.strings_makeASCIISet Tryz.lays227 hv116 (by kernel_rfl) chars w hs hascii
def Tryz.lays228_ren : Go.Shelf.Ren := ⟨fun | 228 => 172 | n => n, fun | 124 => 162 | 5 => 5 | 4 => 4 | 0 => 0 | 116 => 148 | n => n, fun | n => n⟩
theorem Tryz.lays228 : Go.Proofs.Lays.n228 Tryz.prog Tryz.lays228_ren := {
  mixed := by kernel_rfl
  f228 := Tryz.func172.trans (congrArg some (by kernel_rfl))
  t0 := Tryz.underlying0
  a0 := Tryz.isAgg0
  z0 := Tryz.sizeOf0
  v0 := Tryz.zeroValue0
  t4 := Tryz.underlying4
  a4 := Tryz.isAgg4
  z4 := Tryz.sizeOf4
  v4 := Tryz.zeroValue4
  t5 := Tryz.underlying5
  a5 := Tryz.isAgg5
  z5 := Tryz.sizeOf5
  v5 := Tryz.zeroValue5
  t116 := Tryz.underlying148
  a116 := Tryz.isAgg148
  z116 := Tryz.sizeOf148
  t124 := Tryz.underlying162
  a124 := Tryz.isAgg162
  z124 := Tryz.sizeOf162
  v124 := Tryz.zeroValue162 }
open Go.RowKit Go.Lib in
theorem Tryz.asciiSet_contains (b : Nat) (x : UInt8) (v : Bool) (w : World) (hc : w.cell? ⟨b, x.toNat, none⟩ = some (.bool v)) :
    Calls Tryz.prog 172 #[.pointer (some ⟨b, 0, none⟩), .int .u8 x.toNat] w fun e w' => e = .returned (.bool v) ∧ w' = w := Any.asciiSet_contains Tryz.lays228 b x v w hc
open Go.RowKit Go.Lib in
theorem Tryz.strings_IndexAny_long (hv116 : ∀ w, (zeroValue 148).run Tryz.prog w = .ok (.agg (Array.replicate 256 (.bool false))) w) (s chars : ByteArray) (w : World) (h2 : 2 ≤ chars.size) (h8 : 8 < s.size) (hs : s.size < 4294967281) (hcs : chars.size < 4294967281) (hascii : ∀ (j : Nat) b, chars.data.toList[j]? = some b → b.toNat < 128) :
    Calls Tryz.prog 157 #[.string s, .string chars] w fun e w' => e = .returned (.int .i64 (Lib.indexAny s.data.toList chars.data.toList)) ∧ w' = ((w.alloc (.cells (Lib.setCells chars.data.toList) 148)).alloc (.cells (Lib.setCells chars.data.toList) 148)) := Any.strings_IndexAny_long Tryz.lays153 hv116 (by kernel_rfl) s chars w h2 h8 hs hcs hascii
open Go.RowKit Go.Lib in
theorem Tryz.strings_IndexAny (hv116 : ∀ w, (zeroValue 148).run Tryz.prog w = .ok (.agg (Array.replicate 256 (.bool false))) w) (s chars : ByteArray) (w : World) (hs : s.size < 4294967281) (hcs : chars.size < 4294967281) (has : ∀ (j : Nat) b, s.data.toList[j]? = some b → b.toNat < 128) (hac : ∀ (j : Nat) b, chars.data.toList[j]? = some b → b.toNat < 128) :
    Calls Tryz.prog 157 #[.string s, .string chars] w fun e w' => e = .returned (.int .i64 (Lib.indexAny s.data.toList chars.data.toList)) ∧ Below w.heap.size w w' := Any.strings_IndexAny Tryz.lays153 hv116 (by kernel_rfl) s chars w hs hcs has hac
def Tryz.lays150_ren : Go.Shelf.Ren := ⟨fun | 150 => 142 | 153 => 157 | 152 => 169 | 226 => 170 | 227 => 171 | 228 => 172 | 137 => 145 | 119 => 181 | 224 => 175 | 225 => 174 | 217 => 159 | 266 => 173 | n => n, fun | 9 => 9 | 4 => 4 | 3 => 3 | 5 => 5 | 21 => 21 | 117 => 149 | 116 => 148 | 0 => 0 | 46 => 152 | 124 => 162 | n => n, fun | n => n⟩
theorem Tryz.lays150 : Go.Proofs.Lays.n150 Tryz.prog Tryz.lays150_ren := {
  mixed := by kernel_rfl
  f119 := Tryz.func181.trans (congrArg some (by kernel_rfl))
  f137 := Tryz.func145.trans (congrArg some (by kernel_rfl))
  f150 := Tryz.func142.trans (congrArg some (by kernel_rfl))
  f152 := Tryz.func169.trans (congrArg some (by kernel_rfl))
  f153 := Tryz.func157.trans (congrArg some (by kernel_rfl))
  f217 := Tryz.func159.trans (congrArg some (by kernel_rfl))
  f224 := Tryz.func175.trans (congrArg some (by kernel_rfl))
  f225 := Tryz.func174.trans (congrArg some (by kernel_rfl))
  f226 := Tryz.func170.trans (congrArg some (by kernel_rfl))
  f227 := Tryz.func171.trans (congrArg some (by kernel_rfl))
  f228 := Tryz.func172.trans (congrArg some (by kernel_rfl))
  f266 := Tryz.func173.trans (congrArg some (by kernel_rfl))
  t0 := Tryz.underlying0
  a0 := Tryz.isAgg0
  z0 := Tryz.sizeOf0
  v0 := Tryz.zeroValue0
  t3 := Tryz.underlying3
  a3 := Tryz.isAgg3
  z3 := Tryz.sizeOf3
  v3 := Tryz.zeroValue3
  t4 := Tryz.underlying4
  a4 := Tryz.isAgg4
  z4 := Tryz.sizeOf4
  v4 := Tryz.zeroValue4
  t5 := Tryz.underlying5
  a5 := Tryz.isAgg5
  z5 := Tryz.sizeOf5
  v5 := Tryz.zeroValue5
  t9 := Tryz.underlying9
  a9 := Tryz.isAgg9
  z9 := Tryz.sizeOf9
  v9 := Tryz.zeroValue9
  t21 := Tryz.underlying21
  a21 := Tryz.isAgg21
  z21 := Tryz.sizeOf21
  v21 := Tryz.zeroValue21
  t46 := Tryz.underlying152
  a46 := Tryz.isAgg152
  z46 := Tryz.sizeOf152
  v46 := Tryz.zeroValue152
  t116 := Tryz.underlying148
  a116 := Tryz.isAgg148
  z116 := Tryz.sizeOf148
  t117 := Tryz.underlying149
  a117 := Tryz.isAgg149
  z117 := Tryz.sizeOf149
  v117 := Tryz.zeroValue149
  t124 := Tryz.underlying162
  a124 := Tryz.isAgg162
  z124 := Tryz.sizeOf162
  v124 := Tryz.zeroValue162 }
open Go.RowKit Go.Lib in
theorem Tryz.strings_ContainsAny (hv116 : ∀ w, (zeroValue 148).run Tryz.prog w = .ok (.agg (Array.replicate 256 (.bool false))) w) (s chars : ByteArray) (w : World) (hs : s.size < 4294967281) (hcs : chars.size < 4294967281) (has : ∀ (j : Nat) b, s.data.toList[j]? = some b → b.toNat < 128) (hac : ∀ (j : Nat) b, chars.data.toList[j]? = some b → b.toNat < 128) :
    Calls Tryz.prog 142 #[.string s, .string chars] w fun e w' => e = .returned (.bool (Lib.containsAny s.data.toList chars.data.toList)) ∧ Below w.heap.size w w' := Any.strings_ContainsAny Tryz.lays150 hv116 (by kernel_rfl) s chars w hs hcs has hac
open Go.RowKit Go.Lib in
theorem Tryz.strings_IndexAny_laid (s chars : ByteArray) (w : World) (hs : s.size < 4294967281) (hcs : chars.size < 4294967281) (has : ∀ (j : Nat) b, s.data.toList[j]? = some b → b.toNat < 128) (hac : ∀ (j : Nat) b, chars.data.toList[j]? = some b → b.toNat < 128) :
    Calls Tryz.prog 157 #[.string s, .string chars] w fun e w' => e = .returned (.int .i64 (Lib.indexAny s.data.toList chars.data.toList)) ∧ Below w.heap.size w w' := Any.strings_IndexAny_laid Tryz.lays153 (by kernel_rfl) s chars w hs hcs has hac
open Go.RowKit Go.Lib in
theorem Tryz.strings_ContainsAny_laid (s chars : ByteArray) (w : World) (hs : s.size < 4294967281) (hcs : chars.size < 4294967281) (has : ∀ (j : Nat) b, s.data.toList[j]? = some b → b.toNat < 128) (hac : ∀ (j : Nat) b, chars.data.toList[j]? = some b → b.toNat < 128) :
    Calls Tryz.prog 142 #[.string s, .string chars] w fun e w' => e = .returned (.bool (Lib.containsAny s.data.toList chars.data.toList)) ∧ Below w.heap.size w w' := Any.strings_ContainsAny_laid Tryz.lays150 (by kernel_rfl) s chars w hs hcs has hac
def Tryz.lays260_ren : Go.Shelf.Ren := ⟨fun | 260 => 168 | n => n, fun | 9 => 9 | 21 => 21 | 3 => 3 | 4 => 4 | 5 => 5 | 119 => 157 | 0 => 0 | 46 => 152 | 139 => 160 | 138 => 159 | n => n, fun | 3 => 1 | 4 => 2 | n => n⟩
theorem Tryz.lays260 : Go.Proofs.Lays.n260 Tryz.prog Tryz.lays260_ren := {
  mixed := by kernel_rfl
  f260 := Tryz.func168.trans (congrArg some (by kernel_rfl))
  t0 := Tryz.underlying0
  a0 := Tryz.isAgg0
  z0 := Tryz.sizeOf0
  v0 := Tryz.zeroValue0
  t3 := Tryz.underlying3
  a3 := Tryz.isAgg3
  z3 := Tryz.sizeOf3
  v3 := Tryz.zeroValue3
  t4 := Tryz.underlying4
  a4 := Tryz.isAgg4
  z4 := Tryz.sizeOf4
  v4 := Tryz.zeroValue4
  t5 := Tryz.underlying5
  a5 := Tryz.isAgg5
  z5 := Tryz.sizeOf5
  v5 := Tryz.zeroValue5
  t9 := Tryz.underlying9
  a9 := Tryz.isAgg9
  z9 := Tryz.sizeOf9
  v9 := Tryz.zeroValue9
  t21 := Tryz.underlying21
  a21 := Tryz.isAgg21
  z21 := Tryz.sizeOf21
  v21 := Tryz.zeroValue21
  t46 := Tryz.underlying152
  a46 := Tryz.isAgg152
  z46 := Tryz.sizeOf152
  v46 := Tryz.zeroValue152
  t119 := Tryz.underlying157
  a119 := Tryz.isAgg157
  z119 := Tryz.sizeOf157
  t138 := Tryz.underlying159
  a138 := Tryz.isAgg159
  z138 := Tryz.sizeOf159
  v138 := Tryz.zeroValue159
  t139 := Tryz.underlying160
  a139 := Tryz.isAgg160
  z139 := Tryz.sizeOf160
  v139 := Tryz.zeroValue160
  g3 := by kernel_rfl
  g4 := by kernel_rfl }
open Go.RowKit Go.Lib in
theorem Tryz.utf8_decodeRuneInStringSlow (s : ByteArray) (w : World) (hT : Lib.Utf8Tabs 1 2 w) :
    Calls Tryz.prog 168 #[.string s] w fun e w' => e = .returned (.tuple #[.int .i32 (Lib.decodeGo s).1, .int .i64 (Lib.decodeGo s).2]) ∧ Below w.heap.size w w' := Any.utf8_decodeRuneInStringSlow Tryz.lays260 s w hT
def Tryz.lays274_ren : Go.Shelf.Ren := ⟨fun | 274 => 186 | n => n, fun | 21 => 21 | 162 => 169 | 160 => 170 | 3 => 3 | 4 => 4 | 46 => 152 | 0 => 0 | 208 => 176 | 51 => 163 | 206 => 174 | n => n, fun | n => n⟩
theorem Tryz.lays274 : Go.Proofs.Lays.n274 Tryz.prog Tryz.lays274_ren := {
  mixed := by kernel_rfl
  f274 := Tryz.func186.trans (congrArg some (by kernel_rfl))
  t0 := Tryz.underlying0
  a0 := Tryz.isAgg0
  z0 := Tryz.sizeOf0
  v0 := Tryz.zeroValue0
  t3 := Tryz.underlying3
  a3 := Tryz.isAgg3
  z3 := Tryz.sizeOf3
  v3 := Tryz.zeroValue3
  t4 := Tryz.underlying4
  a4 := Tryz.isAgg4
  z4 := Tryz.sizeOf4
  v4 := Tryz.zeroValue4
  t21 := Tryz.underlying21
  a21 := Tryz.isAgg21
  z21 := Tryz.sizeOf21
  v21 := Tryz.zeroValue21
  t46 := Tryz.underlying152
  a46 := Tryz.isAgg152
  z46 := Tryz.sizeOf152
  v46 := Tryz.zeroValue152
  t51 := Tryz.underlying163
  a51 := Tryz.isAgg163
  z51 := Tryz.sizeOf163
  v51 := Tryz.zeroValue163
  t160 := Tryz.underlying170
  a160 := Tryz.isAgg170
  z160 := Tryz.sizeOf170
  v160 := Tryz.zeroValue170
  t162 := Tryz.underlying169
  a162 := Tryz.isAgg169
  z162 := Tryz.sizeOf169
  v162 := Tryz.zeroValue169
  t208 := Tryz.underlying176
  a208 := Tryz.isAgg176
  z208 := Tryz.sizeOf176
  v208 := Tryz.zeroValue176 }
open Go.RowKit Go.Lib in
theorem Tryz.unicode_lookupCaseRange (T : Array CaseRow) (R oR cap : Nat) (r : Int) (w : World) (hT : CaseTab R oR T w) (hok : CaseOk T) (hn : T.size ≤ 1000000000) :
    Calls Tryz.prog 186 #[.int .i32 r, .slice (some ⟨R, oR, none⟩) T.size cap] w fun e w' =>
      e = .returned (match lookupIdx T r (T.size + 1) 0 T.size with | some i => .pointer (some ⟨R, oR + i * 5, none⟩) | none => .pointer none) ∧ w' = w := Any.unicode_lookupCaseRange Tryz.lays274 T R oR cap r w hT hok hn
def Tryz.lays275_ren : Go.Shelf.Ren := ⟨fun | 275 => 187 | n => n, fun | 3 => 3 | 21 => 21 | 160 => 170 | 0 => 0 | 208 => 176 | 206 => 174 | 4 => 4 | 51 => 163 | n => n, fun | n => n⟩
theorem Tryz.lays275 : Go.Proofs.Lays.n275 Tryz.prog Tryz.lays275_ren := {
  mixed := by kernel_rfl
  f275 := Tryz.func187.trans (congrArg some (by kernel_rfl))
  t0 := Tryz.underlying0
  a0 := Tryz.isAgg0
  z0 := Tryz.sizeOf0
  v0 := Tryz.zeroValue0
  t3 := Tryz.underlying3
  a3 := Tryz.isAgg3
  z3 := Tryz.sizeOf3
  v3 := Tryz.zeroValue3
  t4 := Tryz.underlying4
  a4 := Tryz.isAgg4
  z4 := Tryz.sizeOf4
  v4 := Tryz.zeroValue4
  t21 := Tryz.underlying21
  a21 := Tryz.isAgg21
  z21 := Tryz.sizeOf21
  v21 := Tryz.zeroValue21
  t51 := Tryz.underlying163
  a51 := Tryz.isAgg163
  z51 := Tryz.sizeOf163
  v51 := Tryz.zeroValue163
  t160 := Tryz.underlying170
  a160 := Tryz.isAgg170
  z160 := Tryz.sizeOf170
  v160 := Tryz.zeroValue170
  t206 := Tryz.underlying174
  a206 := Tryz.isAgg174
  z206 := Tryz.sizeOf174
  v206 := Tryz.zeroValue174
  t208 := Tryz.underlying176
  a208 := Tryz.isAgg176
  z208 := Tryz.sizeOf176
  v208 := Tryz.zeroValue176 }
open Go.RowKit Go.Lib in
theorem Tryz.unicode_convertCase (c : Nat) (hc : c < 3) (r : Int) (A o : Nat) (x : CaseRow) (w : World) (hlo : (x.1 : Int) ≤ r) (hhi : r ≤ (x.2.1 : Int)) (hH : x.2.1 < 2147483647) (c0 : w.cell? ⟨A, o, none⟩ = some (.int .u32 x.1)) (cD : w.cell? ⟨A, o + 2 + c, none⟩ = some (.int .i32 (x.delta c))) :
    Calls Tryz.prog 187 #[.int .i64 c, .int .i32 r, .pointer (some ⟨A, o, none⟩)] w fun e w' => e = .returned (.int .i32 (wrap32 (convertR c r x))) ∧ ∃ q, w' = w.drewN q := Any.unicode_convertCase Tryz.lays275 c hc r A o x w hlo hhi hH c0 cD
def Tryz.lays313_ren : Go.Shelf.Ren := ⟨fun | 313 => 184 | 274 => 186 | 275 => 187 | n => n, fun | 3 => 3 | 21 => 21 | 162 => 169 | 4 => 4 | 160 => 170 | 46 => 152 | 0 => 0 | 208 => 176 | 51 => 163 | 206 => 174 | n => n, fun | n => n⟩
theorem Tryz.lays313 : Go.Proofs.Lays.n313 Tryz.prog Tryz.lays313_ren := {
  mixed := by kernel_rfl
  f274 := Tryz.func186.trans (congrArg some (by kernel_rfl))
  f275 := Tryz.func187.trans (congrArg some (by kernel_rfl))
  f313 := Tryz.func184.trans (congrArg some (by kernel_rfl))
  t0 := Tryz.underlying0
  a0 := Tryz.isAgg0
  z0 := Tryz.sizeOf0
  v0 := Tryz.zeroValue0
  t3 := Tryz.underlying3
  a3 := Tryz.isAgg3
  z3 := Tryz.sizeOf3
  v3 := Tryz.zeroValue3
  t4 := Tryz.underlying4
  a4 := Tryz.isAgg4
  z4 := Tryz.sizeOf4
  v4 := Tryz.zeroValue4
  t21 := Tryz.underlying21
  a21 := Tryz.isAgg21
  z21 := Tryz.sizeOf21
  v21 := Tryz.zeroValue21
  t46 := Tryz.underlying152
  a46 := Tryz.isAgg152
  z46 := Tryz.sizeOf152
  v46 := Tryz.zeroValue152
  t51 := Tryz.underlying163
  a51 := Tryz.isAgg163
  z51 := Tryz.sizeOf163
  v51 := Tryz.zeroValue163
  t160 := Tryz.underlying170
  a160 := Tryz.isAgg170
  z160 := Tryz.sizeOf170
  v160 := Tryz.zeroValue170
  t162 := Tryz.underlying169
  a162 := Tryz.isAgg169
  z162 := Tryz.sizeOf169
  v162 := Tryz.zeroValue169
  t206 := Tryz.underlying174
  a206 := Tryz.isAgg174
  z206 := Tryz.sizeOf174
  v206 := Tryz.zeroValue174
  t208 := Tryz.underlying176
  a208 := Tryz.isAgg176
  z208 := Tryz.sizeOf176
  v208 := Tryz.zeroValue176 }
open Go.RowKit Go.Lib in
theorem Tryz.unicode_to (c : Nat) (hc : c < 3) (r : Int) (T : Array CaseRow) (R oR cap : Nat) (w : World) (hT : CaseTab R oR T w) (hok : CaseOk2 T) (hn : T.size ≤ 1000000000) :
    Calls Tryz.prog 184 #[.int .i64 c, .int .i32 r, .slice (some ⟨R, oR, none⟩) T.size cap] w fun e w' => e = .returned (.tuple #[.int .i32 (toW T c r), .bool (lookupIdx T r (T.size + 1) 0 T.size).isSome]) ∧ ∃ q, w' = w.drewN q := Any.unicode_to Tryz.lays313 c hc r T R oR cap w hT hok hn
def Tryz.lays262_ren : Go.Shelf.Ren := ⟨fun | 262 => 180 | 313 => 184 | 274 => 186 | 275 => 187 | n => n, fun | 3 => 3 | 21 => 21 | 162 => 169 | 203 => 167 | 4 => 4 | 160 => 170 | 46 => 152 | 0 => 0 | 208 => 176 | 51 => 163 | 206 => 174 | n => n, fun | 13 => 3 | n => n⟩
theorem Tryz.lays262 : Go.Proofs.Lays.n262 Tryz.prog Tryz.lays262_ren := {
  mixed := by kernel_rfl
  f262 := Tryz.func180.trans (congrArg some (by kernel_rfl))
  f274 := Tryz.func186.trans (congrArg some (by kernel_rfl))
  f275 := Tryz.func187.trans (congrArg some (by kernel_rfl))
  f313 := Tryz.func184.trans (congrArg some (by kernel_rfl))
  t0 := Tryz.underlying0
  a0 := Tryz.isAgg0
  z0 := Tryz.sizeOf0
  v0 := Tryz.zeroValue0
  t3 := Tryz.underlying3
  a3 := Tryz.isAgg3
  z3 := Tryz.sizeOf3
  v3 := Tryz.zeroValue3
  t4 := Tryz.underlying4
  a4 := Tryz.isAgg4
  z4 := Tryz.sizeOf4
  v4 := Tryz.zeroValue4
  t21 := Tryz.underlying21
  a21 := Tryz.isAgg21
  z21 := Tryz.sizeOf21
  v21 := Tryz.zeroValue21
  t46 := Tryz.underlying152
  a46 := Tryz.isAgg152
  z46 := Tryz.sizeOf152
  v46 := Tryz.zeroValue152
  t51 := Tryz.underlying163
  a51 := Tryz.isAgg163
  z51 := Tryz.sizeOf163
  v51 := Tryz.zeroValue163
  t160 := Tryz.underlying170
  a160 := Tryz.isAgg170
  z160 := Tryz.sizeOf170
  v160 := Tryz.zeroValue170
  t162 := Tryz.underlying169
  a162 := Tryz.isAgg169
  z162 := Tryz.sizeOf169
  v162 := Tryz.zeroValue169
  t203 := Tryz.underlying167
  a203 := Tryz.isAgg167
  z203 := Tryz.sizeOf167
  v203 := Tryz.zeroValue167
  t206 := Tryz.underlying174
  a206 := Tryz.isAgg174
  z206 := Tryz.sizeOf174
  v206 := Tryz.zeroValue174
  t208 := Tryz.underlying176
  a208 := Tryz.isAgg176
  z208 := Tryz.sizeOf176
  v208 := Tryz.zeroValue176
  g13 := by kernel_rfl }
open Go.RowKit Go.Lib in
theorem Tryz.unicode_To (c : Nat) (hc : c < 3) (r : Int) (T : Array CaseRow) (w : World) (hV : CaseVar 3 T w) (hok : CaseOk2 T) (hn : T.size ≤ 1000000000) :
    Calls Tryz.prog 180 #[.int .i64 c, .int .i32 r] w fun e w' => e = .returned (.int .i32 (toW T c r)) ∧ ∃ q, w' = w.drewN q := Any.unicode_To Tryz.lays262 c hc r T w hV hok hn
open Go.RowKit Go.Lib in
theorem Tryz.unicode_ToLower_any (r : Int) (T : Array CaseRow) (w : World) (hV : CaseVar 3 T w) (hok : CaseOk2 T) (hn : T.size ≤ 1000000000) :
    Calls Tryz.prog 167 #[.int .i32 r] w fun e w' => e = .returned (.int .i32 (Lib.toLowerW T r)) ∧ ∃ q, w' = w.drewN q := Any.unicode_ToLower_any Tryz.lays204 r T w hV hok hn
open Go.RowKit Go.Lib in
theorem Tryz.unicode_ToLower_laid (r : Int) (w : World) (hV : CaseVar 3 caseA w) :
    Calls Tryz.prog 167 #[.int .i32 r] w fun e w' => e = .returned (.int .i32 (toLowerU r)) ∧ ∃ q, w' = w.drewN q := Any.unicode_ToLower_laid Tryz.lays204 r w hV
def Tryz.lays193_ren : Go.Shelf.Ren := ⟨fun | 193 => 75 | n => n, fun | 31 => 62 | 9 => 9 | 4 => 4 | 3 => 3 | 0 => 0 | n => n, fun | n => n⟩
theorem Tryz.lays193 : Go.Proofs.Lays.n193 Tryz.prog Tryz.lays193_ren := {
  mixed := by kernel_rfl
  f193 := Tryz.func75.trans (congrArg some (by kernel_rfl))
  t0 := Tryz.underlying0
  a0 := Tryz.isAgg0
  z0 := Tryz.sizeOf0
  v0 := Tryz.zeroValue0
  t3 := Tryz.underlying3
  a3 := Tryz.isAgg3
  z3 := Tryz.sizeOf3
  v3 := Tryz.zeroValue3
  t4 := Tryz.underlying4
  a4 := Tryz.isAgg4
  z4 := Tryz.sizeOf4
  v4 := Tryz.zeroValue4
  t9 := Tryz.underlying9
  a9 := Tryz.isAgg9
  z9 := Tryz.sizeOf9
  v9 := Tryz.zeroValue9
  t31 := Tryz.underlying62
  a31 := Tryz.isAgg62
  z31 := Tryz.sizeOf62
  v31 := Tryz.zeroValue62 }
open Go.RowKit Go.Lib in
theorem Tryz.slices_Equal_string (b1 o1 n c b2 o2 m d : Nat) (xs ys : List ByteArray) (w : World) (hx : n ≤ xs.length) (hy : m ≤ ys.length) (hbig : n ≤ 9223372036854775807) (hbig2 : m ≤ 9223372036854775807) (hc1 : ∀ j, j < xs.length → w.cell? ⟨b1, o1 + j, none⟩ = some (.string (xs.getD j ByteArray.empty))) (hc2 : ∀ j, j < ys.length → w.cell? ⟨b2, o2 + j, none⟩ = some (.string (ys.getD j ByteArray.empty))) :
    Calls Tryz.prog 75 #[.slice (some ⟨b1, o1, none⟩) n c, .slice (some ⟨b2, o2, none⟩) m d] w fun e w' => e = .returned (.bool (decide (xs.take n = ys.take m))) ∧ ∃ q, w' = w.drewN q := Any.slices_Equal_string Tryz.lays193 b1 o1 n c b2 o2 m d xs ys w hx hy hbig hbig2 hc1 hc2
open Go.RowKit Go.Lib in
theorem Tryz.slices_Equal_string_empty (a1 a2 : Option Addr) (c m d : Nat) (w : World) (hbig2 : m ≤ 9223372036854775807) :
    Calls Tryz.prog 75 #[.slice a1 0 c, .slice a2 m d] w fun e w' => e = .returned (.bool (decide (m = 0))) ∧ w' = w := Any.slices_Equal_string_empty Tryz.lays193 a1 a2 c m d w hbig2
open Go.RowKit Go.Lib in
theorem Tryz.slices_Equal_string_lens (a1 a2 : Option Addr) (n c m d : Nat) (w : World) (hnm : n ≠ m) :
    Calls Tryz.prog 75 #[.slice a1 n c, .slice a2 m d] w fun e w' => e = .returned (.bool false) ∧ w' = w := Any.slices_Equal_string_lens Tryz.lays193 a1 a2 n c m d w hnm
end Go.Proofs
