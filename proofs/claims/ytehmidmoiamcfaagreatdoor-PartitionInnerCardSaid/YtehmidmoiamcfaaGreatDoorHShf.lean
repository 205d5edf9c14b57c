/-
 The shelf's contracts of Go's library at this translation, as the kit's own program lays them in plain declarations (remarks struck).
-/
import Derived.Shelf.Strings.Builder1
import Derived.Shelf.Strings.Builder2
import Derived.Shelf.Strings.OnBuilder
import Derived.Shelf.Small.Utf8
import Derived.Shelf.Small.Strs
import Derived.Shelf.Small.Wraps
import Derived.Shelf.Strconv.Atoi
import Derived.Shelf.Strconv.Itoa0
import Derived.Shelf.Strconv.Itoa1
import Derived.Shelf.LaysM
import Derived.Shelf.Strconv.Itoa2
import Derived.Shelf.Strconv.Itoa3
import Derived.Shelf.Strconv.AtoiErrFast
import Derived.Shelf.Strconv.ParseIntEmpty
import Derived.Shelf.Strconv.AtoiFail
import Derived.Shelf.Strconv.Clone
import Derived.Shelf.Strconv.SyntaxError
import Derived.Shelf.LaysC
import Derived.Shelf.Strconv.ToError
import Derived.Shelf.Strconv.Lower
import Derived.Shelf.Strconv.ParseUint10
import Derived.Shelf.Strconv.ParseUint10Empty
import Derived.Shelf.Strconv.ParseUint10Any
import Derived.Shelf.Strconv.ParseInt10
import Derived.Shelf.Strconv.AtoiLong
import Derived.Shelf.Strconv.AtoiInnerAll
import Derived.Shelf.Strconv.RangeError
import Derived.Shelf.Strconv.ToErrorRange
import Derived.Shelf.Strconv.AtoiAll
import Derived.Shelf.Strconv.ErrVarAll
import Derived.Shelf.Strings.Search1
import Derived.Shelf.Strings.Search2
import Derived.Shelf.Strings.Search3
import Derived.Shelf.Strings.Count
import Derived.Shelf.Strings.Shaped
import Derived.Shelf.Strings.Prefix
import Derived.Shelf.Strings.Split
import Derived.Shelf.Strings.Replace
import Derived.Shelf.Strings.SplitShaped
import Derived.Shelf.Unicode.Latin
import Derived.Shelf.Strings.Runes
import Derived.Shelf.Strings.IndexAny
import Derived.Shelf.Strings.AsciiSet
import Derived.Shelf.Strings.IndexAnyAll
import Derived.Shelf.Unicode.DecodeSlow
import Derived.Shelf.Unicode.CaseLookup
import Derived.Shelf.Unicode.CaseConvert
import Derived.Shelf.Unicode.CaseTo
import Derived.Shelf.Unicode.CaseLaid
import Derived.Test.YtehmidmoiamcfaaGreatDoorProg
import Derived.Shelf.Strings.SlTrimAscii
namespace Go.Proofs
open Go.Shelf
def Tryz.lays159_ren : Go.Shelf.Ren := ⟨fun | 159 => 107 | 165 => 122 | 166 => 123 | 167 => 151 | 169 => 124 | 230 => 152 | 204 => 153 | 240 => 164 | 241 => 165 | 197 => 182 | 118 => 183 | 168 => 184 | 270 => 185 | 262 => 186 | 276 => 200 | 277 => 201 | 260 => 207 | 242 => 208 | 313 => 209 | 278 => 216 | 274 => 217 | 275 => 218 | n => n, fun | 9 => 9 | 4 => 4 | 3 => 3 | 5 => 5 | 72 => 154 | 0 => 0 | 76 => 142 | 75 => 141 | 107 => 172 | 70 => 151 | 20 => 20 | 37 => 152 | 127 => 180 | 21 => 21 | 105 => 190 | 164 => 204 | 162 => 212 | 203 => 210 | 119 => 220 | 46 => 188 | 139 => 223 | 138 => 222 | 51 => 186 | 160 => 224 | 208 => 234 | 206 => 232 | 80 => 156 | n => n, fun | 13 => 2 | 3 => 7 | 4 => 8 | n => n⟩
theorem Tryz.lays159 : Go.Proofs.Lays.n159 Tryz.prog Tryz.lays159_ren := {
 mixed := by kernel_rfl
 f118 := Tryz.func183.trans (congrArg some (by kernel_rfl))
 f159 := Tryz.func107.trans (congrArg some (by kernel_rfl))
 f165 := Tryz.func122.trans (congrArg some (by kernel_rfl))
 f166 := Tryz.func123.trans (congrArg some (by kernel_rfl))
 f167 := Tryz.func151.trans (congrArg some (by kernel_rfl))
 f168 := Tryz.func184.trans (congrArg some (by kernel_rfl))
 f169 := Tryz.func124.trans (congrArg some (by kernel_rfl))
 f197 := Tryz.func182.trans (congrArg some (by kernel_rfl))
 f204 := Tryz.func153.trans (congrArg some (by kernel_rfl))
 f230 := Tryz.func152.trans (congrArg some (by kernel_rfl))
 f240 := Tryz.func164.trans (congrArg some (by kernel_rfl))
 f241 := Tryz.func165.trans (congrArg some (by kernel_rfl))
 f242 := Tryz.func208.trans (congrArg some (by kernel_rfl))
 f260 := Tryz.func207.trans (congrArg some (by kernel_rfl))
 f262 := Tryz.func186.trans (congrArg some (by kernel_rfl))
 f270 := Tryz.func185.trans (congrArg some (by kernel_rfl))
 f274 := Tryz.func217.trans (congrArg some (by kernel_rfl))
 f275 := Tryz.func218.trans (congrArg some (by kernel_rfl))
 f276 := Tryz.func200.trans (congrArg some (by kernel_rfl))
 f277 := Tryz.func201.trans (congrArg some (by kernel_rfl))
 f278 := Tryz.func216.trans (congrArg some (by kernel_rfl))
 f313 := Tryz.func209.trans (congrArg some (by kernel_rfl))
 t0 := Tryz.underlying0
 a0 := Tryz.isAgg0
 z0 := Tryz.sizeOf0
 v0 := Tryz.zeroValue0
 t3 := Tryz.underlying3
 a3 := Tryz.isAgg3
 z3 := Tryz.sizeOf3
 v3 := Tryz.zeroValue3
 t4 := Tryz.underlying4
 a4 := Tryz.isAgg4
 z4 := Tryz.sizeOf4
 v4 := Tryz.zeroValue4
 t5 := Tryz.underlying5
 a5 := Tryz.isAgg5
 z5 := Tryz.sizeOf5
 v5 := Tryz.zeroValue5
 t9 := Tryz.underlying9
 a9 := Tryz.isAgg9
 z9 := Tryz.sizeOf9
 v9 := Tryz.zeroValue9
 t20 := Tryz.underlying20
 a20 := Tryz.isAgg20
 z20 := Tryz.sizeOf20
 v20 := Tryz.zeroValue20
 t21 := Tryz.underlying21
 a21 := Tryz.isAgg21
 z21 := Tryz.sizeOf21
 v21 := Tryz.zeroValue21
 t37 := Tryz.underlying152
 a37 := Tryz.isAgg152
 z37 := Tryz.sizeOf152
 v37 := Tryz.zeroValue152
 t46 := Tryz.underlying188
 a46 := Tryz.isAgg188
 z46 := Tryz.sizeOf188
 v46 := Tryz.zeroValue188
 t51 := Tryz.underlying186
 a51 := Tryz.isAgg186
 z51 := Tryz.sizeOf186
 v51 := Tryz.zeroValue186
 t70 := Tryz.underlying151
 a70 := Tryz.isAgg151
 z70 := Tryz.sizeOf151
 v70 := Tryz.zeroValue151
 t72 := Tryz.underlying154
 a72 := Tryz.isAgg154
 z72 := Tryz.sizeOf154
 v72 := Tryz.zeroValue154
 t75 := Tryz.underlying141
 a75 := Tryz.isAgg141
 z75 := Tryz.sizeOf141
 v75 := Tryz.zeroValue141
 t76 := Tryz.underlying142
 a76 := Tryz.isAgg142
 z76 := Tryz.sizeOf142
 v76 := Tryz.zeroValue142
 t105 := Tryz.underlying190
 a105 := Tryz.isAgg190
 z105 := Tryz.sizeOf190
 v105 := Tryz.zeroValue190
 t107 := Tryz.underlying172
 a107 := Tryz.isAgg172
 z107 := Tryz.sizeOf172
 v107 := Tryz.zeroValue172
 t119 := Tryz.underlying220
 a119 := Tryz.isAgg220
 z119 := Tryz.sizeOf220
 t127 := Tryz.underlying180
 a127 := Tryz.isAgg180
 z127 := Tryz.sizeOf180
 v127 := Tryz.zeroValue180
 t138 := Tryz.underlying222
 a138 := Tryz.isAgg222
 z138 := Tryz.sizeOf222
 v138 := Tryz.zeroValue222
 t139 := Tryz.underlying223
 a139 := Tryz.isAgg223
 z139 := Tryz.sizeOf223
 v139 := Tryz.zeroValue223
 t160 := Tryz.underlying224
 a160 := Tryz.isAgg224
 z160 := Tryz.sizeOf224
 v160 := Tryz.zeroValue224
 t162 := Tryz.underlying212
 a162 := Tryz.isAgg212
 z162 := Tryz.sizeOf212
 v162 := Tryz.zeroValue212
 t164 := Tryz.underlying204
 a164 := Tryz.isAgg204
 z164 := Tryz.sizeOf204
 v164 := Tryz.zeroValue204
 t203 := Tryz.underlying210
 a203 := Tryz.isAgg210
 z203 := Tryz.sizeOf210
 v203 := Tryz.zeroValue210
 t206 := Tryz.underlying232
 a206 := Tryz.isAgg232
 z206 := Tryz.sizeOf232
 v206 := Tryz.zeroValue232
 t208 := Tryz.underlying234
 a208 := Tryz.isAgg234
 z208 := Tryz.sizeOf234
 v208 := Tryz.zeroValue234
 g3 := by kernel_rfl
 g4 := by kernel_rfl
 g13 := by kernel_rfl }
theorem Tryz.Builder_Extra_159 : Builder.Extra Tryz.prog Tryz.lays159_ren := {
 sizeBuilder := by kernel_rfl
 liesBuilder := by kernel_rfl
 t5 := Tryz.underlying5
 a5 := Tryz.isAgg5
 z5 := Tryz.sizeOf5
 v5 := Tryz.zeroValue5
 infoByte := by kernel_rfl
 cellsByte := by kernel_rfl
 sizeByte := by kernel_rfl
 neB5 := by decide }
open Go.RowKit in
theorem Tryz.strings_ToLower_ascii (s : ByteArray) (w : World) (hs : s.size ≤ 140737488355328) (hascii : ∀ (j : Nat) (b : UInt8), s.data.toList[j]? = some b → b.toNat < 128) :
  Calls Tryz.prog 107 #[.string s] w fun e w' => e = .returned (.string ⟨(Lib.toLowerA s.data.toList).toArray⟩) ∧ Below w.heap.size w w' := Any.strings_ToLower_ascii Tryz.lays159 Tryz.Builder_Extra_159 s w hs hascii
def Tryz.lays156_ren : Go.Shelf.Ren := ⟨fun | 156 => 83 | 165 => 122 | 166 => 123 | 169 => 124 | 240 => 164 | 241 => 165 | 276 => 200 | 277 => 201 | n => n, fun | 31 => 72 | 9 => 9 | 3 => 3 | 4 => 4 | 0 => 0 | 20 => 20 | 72 => 154 | 76 => 142 | 70 => 151 | 37 => 152 | 75 => 141 | 127 => 180 | 164 => 204 | 5 => 5 | 80 => 156 | n => n, fun | n => n⟩
theorem Tryz.lays156 : Go.Proofs.Lays.n156 Tryz.prog Tryz.lays156_ren := {
 mixed := by kernel_rfl
 f156 := Tryz.func83.trans (congrArg some (by kernel_rfl))
 f165 := Tryz.func122.trans (congrArg some (by kernel_rfl))
 f166 := Tryz.func123.trans (congrArg some (by kernel_rfl))
 f169 := Tryz.func124.trans (congrArg some (by kernel_rfl))
 f240 := Tryz.func164.trans (congrArg some (by kernel_rfl))
 f241 := Tryz.func165.trans (congrArg some (by kernel_rfl))
 f276 := Tryz.func200.trans (congrArg some (by kernel_rfl))
 f277 := Tryz.func201.trans (congrArg some (by kernel_rfl))
 t0 := Tryz.underlying0
 a0 := Tryz.isAgg0
 z0 := Tryz.sizeOf0
 v0 := Tryz.zeroValue0
 t3 := Tryz.underlying3
 a3 := Tryz.isAgg3
 z3 := Tryz.sizeOf3
 v3 := Tryz.zeroValue3
 t4 := Tryz.underlying4
 a4 := Tryz.isAgg4
 z4 := Tryz.sizeOf4
 v4 := Tryz.zeroValue4
 t9 := Tryz.underlying9
 a9 := Tryz.isAgg9
 z9 := Tryz.sizeOf9
 v9 := Tryz.zeroValue9
 t20 := Tryz.underlying20
 a20 := Tryz.isAgg20
 z20 := Tryz.sizeOf20
 v20 := Tryz.zeroValue20
 t31 := Tryz.underlying72
 a31 := Tryz.isAgg72
 z31 := Tryz.sizeOf72
 v31 := Tryz.zeroValue72
 t37 := Tryz.underlying152
 a37 := Tryz.isAgg152
 z37 := Tryz.sizeOf152
 v37 := Tryz.zeroValue152
 t70 := Tryz.underlying151
 a70 := Tryz.isAgg151
 z70 := Tryz.sizeOf151
 v70 := Tryz.zeroValue151
 t72 := Tryz.underlying154
 a72 := Tryz.isAgg154
 z72 := Tryz.sizeOf154
 v72 := Tryz.zeroValue154
 t75 := Tryz.underlying141
 a75 := Tryz.isAgg141
 z75 := Tryz.sizeOf141
 v75 := Tryz.zeroValue141
 t76 := Tryz.underlying142
 a76 := Tryz.isAgg142
 z76 := Tryz.sizeOf142
 v76 := Tryz.zeroValue142
 t127 := Tryz.underlying180
 a127 := Tryz.isAgg180
 z127 := Tryz.sizeOf180
 v127 := Tryz.zeroValue180
 t164 := Tryz.underlying204
 a164 := Tryz.isAgg204
 z164 := Tryz.sizeOf204
 v164 := Tryz.zeroValue204 }
theorem Tryz.Builder_Extra_156 : Builder.Extra Tryz.prog Tryz.lays156_ren := {
 sizeBuilder := by kernel_rfl
 liesBuilder := by kernel_rfl
 t5 := Tryz.underlying5
 a5 := Tryz.isAgg5
 z5 := Tryz.sizeOf5
 v5 := Tryz.zeroValue5
 infoByte := by kernel_rfl
 cellsByte := by kernel_rfl
 sizeByte := by kernel_rfl
 neB5 := by decide }
open Go.RowKit in
theorem Tryz.strings_Join_none (a : Option Addr) (c : Nat) (sep : ByteArray) (w : World) :
  Calls Tryz.prog 83 #[.slice a 0 c, .string sep] w fun e w' => e = .returned (.string ⟨#[]⟩) ∧ w' = w := Any.strings_Join_none Tryz.lays156 Tryz.Builder_Extra_156 a c sep w
open Go.RowKit in
theorem Tryz.strings_Join (bk o c : Nat) (xs : List ByteArray) (sep : ByteArray) (w : World) (hcells : ∀ (j : Nat) x, xs[j]? = some x → w.cell? ⟨bk, o + j, none⟩ = some (.string x)) (hbk : bk < w.heap.size) (hN : xs.length ≤ 140737488355328) (hcap : xs.length ≤ c) (hlen : (Lib.join (xs.map (·.data.toList)) sep.data.toList).length ≤ 140737488355328) :
  Calls Tryz.prog 83 #[.slice (some ⟨bk, o, none⟩) xs.length c, .string sep] w fun e w' => e = .returned (.string ⟨(Lib.join (xs.map (·.data.toList)) sep.data.toList).toArray⟩) ∧ Below w.heap.size w w' := Any.strings_Join Tryz.lays156 Tryz.Builder_Extra_156 bk o c xs sep w hcells hbk hN hcap hlen
def Tryz.lays119_ren : Go.Shelf.Ren := ⟨fun | 119 => 188 | n => n, fun | 21 => 21 | 4 => 4 | n => n, fun | n => n⟩
theorem Tryz.lays119 : Go.Proofs.Lays.n119 Tryz.prog Tryz.lays119_ren := {
 mixed := by kernel_rfl
 f119 := Tryz.func188.trans (congrArg some (by kernel_rfl))
 t4 := Tryz.underlying4
 a4 := Tryz.isAgg4
 z4 := Tryz.sizeOf4
 v4 := Tryz.zeroValue4
 t21 := Tryz.underlying21
 a21 := Tryz.isAgg21
 z21 := Tryz.sizeOf21
 v21 := Tryz.zeroValue21 }
theorem Tryz.utf8_ValidRune (r : Int) (w : World) :
  Calls Tryz.prog 188 #[.int .i32 r] w fun e w' => e = .returned (.bool (Lib.validRune r)) ∧ w' = w := Any.utf8_ValidRune Tryz.lays119 r w
def Tryz.lays137_ren : Go.Shelf.Ren := ⟨fun | 137 => 108 | 217 => 154 | 266 => 187 | n => n, fun | 9 => 9 | 5 => 5 | 3 => 3 | n => n, fun | n => n⟩
theorem Tryz.lays137 : Go.Proofs.Lays.n137 Tryz.prog Tryz.lays137_ren := {
 mixed := by kernel_rfl
 f137 := Tryz.func108.trans (congrArg some (by kernel_rfl))
 f217 := Tryz.func154.trans (congrArg some (by kernel_rfl))
 f266 := Tryz.func187.trans (congrArg some (by kernel_rfl))
 t3 := Tryz.underlying3
 a3 := Tryz.isAgg3
 z3 := Tryz.sizeOf3
 v3 := Tryz.zeroValue3
 t5 := Tryz.underlying5
 a5 := Tryz.isAgg5
 z5 := Tryz.sizeOf5
 v5 := Tryz.zeroValue5
 t9 := Tryz.underlying9
 a9 := Tryz.isAgg9
 z9 := Tryz.sizeOf9
 v9 := Tryz.zeroValue9 }
open Go.RowKit in
theorem Tryz.strings_IndexByte (s : ByteArray) (c : Int) (w : World) :
  Calls Tryz.prog 108 #[.string s, .int .u8 c] w fun e w' => e = .returned (.int .i64 (Lib.indexByte s.data.toList c.toNat.toUInt8)) ∧ w' = w := Any.strings_IndexByte Tryz.lays137 s c w
def Tryz.laysM171_ren : Go.Shelf.Ren := ⟨fun | 171 => 34 | 243 => 65 | 246 => 106 | 283 => 147 | 284 => 148 | 285 => 149 | 286 => 150 | 129 => 178 | 317 => 177 | 318 => 179 | 319 => 180 | 320 => 181 | 337 => 205 | 338 => 206 | n => n, fun | 3 => 3 | 9 => 9 | 2 => 2 | 4 => 4 | 171 => 164 | 0 => 0 | 53 => 165 | 37 => 152 | 5 => 5 | 173 => 168 | 212 => 185 | 51 => 186 | 20 => 20 | 213 => 187 | 46 => 188 | 232 => 218 | 233 => 219 | n => n, fun | 17 => 0 | 18 => 5 | 19 => 6 | n => n⟩
theorem Tryz.laysM171 : Go.Proofs.LaysM.n171 Tryz.prog Tryz.laysM171_ren := {
 mixed := by kernel_rfl
 f129 := Tryz.func178.trans (congrArg some (by kernel_rfl))
 f171 := Tryz.func34.trans (congrArg some (by kernel_rfl))
 f243 := Tryz.func65.trans (congrArg some (by kernel_rfl))
 f246 := Tryz.func106.trans (congrArg some (by kernel_rfl))
 f283 := Tryz.func147.trans (congrArg some (by kernel_rfl))
 f284 := Tryz.func148.trans (congrArg some (by kernel_rfl))
 f285 := Tryz.func149.trans (congrArg some (by kernel_rfl))
 f286 := Tryz.func150.trans (congrArg some (by kernel_rfl))
 f317 := Tryz.func177.trans (congrArg some (by kernel_rfl))
 f318 := Tryz.func179.trans (congrArg some (by kernel_rfl))
 f319 := Tryz.func180.trans (congrArg some (by kernel_rfl))
 f320 := Tryz.func181.trans (congrArg some (by kernel_rfl))
 f337 := Tryz.func205.trans (congrArg some (by kernel_rfl))
 f338 := Tryz.func206.trans (congrArg some (by kernel_rfl))
 t0 := Tryz.underlying0
 a0 := Tryz.isAgg0
 z0 := Tryz.sizeOf0
 v0 := Tryz.zeroValue0
 t2 := Tryz.underlying2
 a2 := Tryz.isAgg2
 z2 := Tryz.sizeOf2
 v2 := Tryz.zeroValue2
 t3 := Tryz.underlying3
 a3 := Tryz.isAgg3
 z3 := Tryz.sizeOf3
 v3 := Tryz.zeroValue3
 t4 := Tryz.underlying4
 a4 := Tryz.isAgg4
 z4 := Tryz.sizeOf4
 v4 := Tryz.zeroValue4
 t5 := Tryz.underlying5
 a5 := Tryz.isAgg5
 z5 := Tryz.sizeOf5
 v5 := Tryz.zeroValue5
 t9 := Tryz.underlying9
 a9 := Tryz.isAgg9
 z9 := Tryz.sizeOf9
 v9 := Tryz.zeroValue9
 t20 := Tryz.underlying20
 a20 := Tryz.isAgg20
 z20 := Tryz.sizeOf20
 v20 := Tryz.zeroValue20
 t37 := Tryz.underlying152
 a37 := Tryz.isAgg152
 z37 := Tryz.sizeOf152
 v37 := Tryz.zeroValue152
 t46 := Tryz.underlying188
 a46 := Tryz.isAgg188
 z46 := Tryz.sizeOf188
 v46 := Tryz.zeroValue188
 t51 := Tryz.underlying186
 a51 := Tryz.isAgg186
 z51 := Tryz.sizeOf186
 v51 := Tryz.zeroValue186
 t53 := Tryz.underlying165
 a53 := Tryz.isAgg165
 z53 := Tryz.sizeOf165
 v53 := Tryz.zeroValue165
 t171 := Tryz.underlying164
 a171 := Tryz.isAgg164
 z171 := Tryz.sizeOf164
 v171 := Tryz.zeroValue164
 t173 := Tryz.underlying168
 a173 := Tryz.isAgg168
 z173 := Tryz.sizeOf168
 v173 := Tryz.zeroValue168
 t212 := Tryz.underlying185
 a212 := Tryz.isAgg185
 z212 := Tryz.sizeOf185
 v212 := Tryz.zeroValue185
 t213 := Tryz.underlying187
 a213 := Tryz.isAgg187
 z213 := Tryz.sizeOf187
 t232 := Tryz.underlying218
 a232 := Tryz.isAgg218
 z232 := Tryz.sizeOf218
 v232 := Tryz.zeroValue218
 t233 := Tryz.underlying219
 a233 := Tryz.isAgg219
 z233 := Tryz.sizeOf219
 v233 := Tryz.zeroValue219
 g17 := by kernel_rfl
 g18 := by kernel_rfl
 g19 := by kernel_rfl
 i0 := by kernel_rfl
 i2 := by kernel_rfl
 i3 := by kernel_rfl
 i4 := by kernel_rfl
 i5 := by kernel_rfl
 i9 := by kernel_rfl
 i20 := by kernel_rfl
 i37 := by kernel_rfl
 i46 := by kernel_rfl
 i51 := by kernel_rfl
 i53 := by kernel_rfl
 i171 := by kernel_rfl
 i173 := by kernel_rfl
 i212 := by kernel_rfl
 i232 := by kernel_rfl
 i233 := by kernel_rfl
 m17 := by kernel_rfl
 m18 := by kernel_rfl
 m19 := by kernel_rfl }
open Go.RowKit Go.Sort Go.Lib in
theorem Tryz.strconv_Itoa (n : Int) (h0 : -9223372036854775808 ≤ n) (h1 : n ≤ 9223372036854775807) (w : World) (htab : Lib.TabIs Tryz.prog w "internal/strconv.uint64pow10" .u64 Lib.pow10Tab) :
  Calls Tryz.prog 34 #[.int .i64 n] w fun e w' => e = .returned (.string ⟨(Lib.itoa n).toArray⟩) ∧ ∃ k os, w' = grow (w.drewN k) os := Any.strconv_Itoa Tryz.laysM171 n h0 h1 w htab
def Tryz.lays171_ren : Go.Shelf.Ren := ⟨fun | 171 => 34 | 243 => 65 | 246 => 106 | 283 => 147 | 284 => 148 | 285 => 149 | 286 => 150 | 129 => 178 | 317 => 177 | 318 => 179 | 319 => 180 | 320 => 181 | 337 => 205 | 338 => 206 | n => n, fun | 3 => 3 | 9 => 9 | 2 => 2 | 4 => 4 | 171 => 164 | 0 => 0 | 53 => 165 | 37 => 152 | 5 => 5 | 173 => 168 | 212 => 185 | 51 => 186 | 20 => 20 | 213 => 187 | 46 => 188 | 232 => 218 | 233 => 219 | n => n, fun | 17 => 0 | 18 => 5 | 19 => 6 | n => n⟩
theorem Tryz.lays171 : Go.Proofs.Lays.n171 Tryz.prog Tryz.lays171_ren := {
 mixed := by kernel_rfl
 f129 := Tryz.func178.trans (congrArg some (by kernel_rfl))
 f171 := Tryz.func34.trans (congrArg some (by kernel_rfl))
 f243 := Tryz.func65.trans (congrArg some (by kernel_rfl))
 f246 := Tryz.func106.trans (congrArg some (by kernel_rfl))
 f283 := Tryz.func147.trans (congrArg some (by kernel_rfl))
 f284 := Tryz.func148.trans (congrArg some (by kernel_rfl))
 f285 := Tryz.func149.trans (congrArg some (by kernel_rfl))
 f286 := Tryz.func150.trans (congrArg some (by kernel_rfl))
 f317 := Tryz.func177.trans (congrArg some (by kernel_rfl))
 f318 := Tryz.func179.trans (congrArg some (by kernel_rfl))
 f319 := Tryz.func180.trans (congrArg some (by kernel_rfl))
 f320 := Tryz.func181.trans (congrArg some (by kernel_rfl))
 f337 := Tryz.func205.trans (congrArg some (by kernel_rfl))
 f338 := Tryz.func206.trans (congrArg some (by kernel_rfl))
 t0 := Tryz.underlying0
 a0 := Tryz.isAgg0
 z0 := Tryz.sizeOf0
 v0 := Tryz.zeroValue0
 t2 := Tryz.underlying2
 a2 := Tryz.isAgg2
 z2 := Tryz.sizeOf2
 v2 := Tryz.zeroValue2
 t3 := Tryz.underlying3
 a3 := Tryz.isAgg3
 z3 := Tryz.sizeOf3
 v3 := Tryz.zeroValue3
 t4 := Tryz.underlying4
 a4 := Tryz.isAgg4
 z4 := Tryz.sizeOf4
 v4 := Tryz.zeroValue4
 t5 := Tryz.underlying5
 a5 := Tryz.isAgg5
 z5 := Tryz.sizeOf5
 v5 := Tryz.zeroValue5
 t9 := Tryz.underlying9
 a9 := Tryz.isAgg9
 z9 := Tryz.sizeOf9
 v9 := Tryz.zeroValue9
 t20 := Tryz.underlying20
 a20 := Tryz.isAgg20
 z20 := Tryz.sizeOf20
 v20 := Tryz.zeroValue20
 t37 := Tryz.underlying152
 a37 := Tryz.isAgg152
 z37 := Tryz.sizeOf152
 v37 := Tryz.zeroValue152
 t46 := Tryz.underlying188
 a46 := Tryz.isAgg188
 z46 := Tryz.sizeOf188
 v46 := Tryz.zeroValue188
 t51 := Tryz.underlying186
 a51 := Tryz.isAgg186
 z51 := Tryz.sizeOf186
 v51 := Tryz.zeroValue186
 t53 := Tryz.underlying165
 a53 := Tryz.isAgg165
 z53 := Tryz.sizeOf165
 v53 := Tryz.zeroValue165
 t171 := Tryz.underlying164
 a171 := Tryz.isAgg164
 z171 := Tryz.sizeOf164
 v171 := Tryz.zeroValue164
 t173 := Tryz.underlying168
 a173 := Tryz.isAgg168
 z173 := Tryz.sizeOf168
 v173 := Tryz.zeroValue168
 t212 := Tryz.underlying185
 a212 := Tryz.isAgg185
 z212 := Tryz.sizeOf185
 v212 := Tryz.zeroValue185
 t213 := Tryz.underlying187
 a213 := Tryz.isAgg187
 z213 := Tryz.sizeOf187
 t232 := Tryz.underlying218
 a232 := Tryz.isAgg218
 z232 := Tryz.sizeOf218
 v232 := Tryz.zeroValue218
 t233 := Tryz.underlying219
 a233 := Tryz.isAgg219
 z233 := Tryz.sizeOf219
 v233 := Tryz.zeroValue219
 g17 := by kernel_rfl
 g18 := by kernel_rfl
 g19 := by kernel_rfl }
open Go.RowKit Go.Sort Go.Lib in
theorem Tryz.strconv_Itoa_small (i : Nat) (hi : i < 100) (w : World) :
  Calls Tryz.prog 34 #[.int .i64 i] w fun e w' => e = .returned (.string ⟨(Lib.decDigits i).toArray⟩) ∧ w' = w := Any.strconv_Itoa_small Tryz.lays171 i hi w
def Tryz.laysC172_ren : Go.Shelf.Ren := ⟨fun | 172 => 111 | 244 => 160 | 245 => 161 | 247 => 192 | 279 => 193 | 280 => 194 | 281 => 195 | 282 => 196 | 287 => 210 | 316 => 211 | 171 => 34 | 205 => 212 | 321 => 219 | 322 => 220 | 243 => 65 | 246 => 106 | 283 => 147 | 284 => 148 | 285 => 149 | 286 => 150 | 129 => 178 | 317 => 177 | 318 => 179 | 319 => 180 | 320 => 181 | 337 => 205 | 338 => 206 | n => n, fun | 9 => 9 | 3 => 3 | 75 => 141 | 76 => 142 | 4 => 4 | 5 => 5 | 167 => 197 | 37 => 152 | 0 => 0 | 85 => 198 | 2 => 2 | 168 => 200 | 53 => 165 | 175 => 213 | 46 => 188 | 210 => 216 | 127 => 180 | 145 => 230 | 143 => 228 | 21 => 21 | 171 => 164 | 173 => 168 | 212 => 185 | 51 => 186 | 20 => 20 | 213 => 187 | 232 => 218 | 233 => 219 | 80 => 156 | n => n, fun | 15 => 3 | 16 => 4 | 17 => 0 | 18 => 5 | 19 => 6 | n => n⟩
theorem Tryz.laysC172 : Go.Proofs.LaysC.n172 Tryz.prog Tryz.laysC172_ren := {
 mixed := by kernel_rfl
 f129 := Tryz.func178.trans (congrArg some (by kernel_rfl))
 f171 := Tryz.func34.trans (congrArg some (by kernel_rfl))
 f172 := Tryz.func111.trans (congrArg some (by kernel_rfl))
 f205 := Tryz.func212.trans (congrArg some (by kernel_rfl))
 f243 := Tryz.func65.trans (congrArg some (by kernel_rfl))
 f244 := Tryz.func160.trans (congrArg some (by kernel_rfl))
 f245 := Tryz.func161.trans (congrArg some (by kernel_rfl))
 f246 := Tryz.func106.trans (congrArg some (by kernel_rfl))
 f247 := Tryz.func192.trans (congrArg some (by kernel_rfl))
 f279 := Tryz.func193.trans (congrArg some (by kernel_rfl))
 f280 := Tryz.func194.trans (congrArg some (by kernel_rfl))
 f281 := Tryz.func195.trans (congrArg some (by kernel_rfl))
 f282 := Tryz.func196.trans (congrArg some (by kernel_rfl))
 f283 := Tryz.func147.trans (congrArg some (by kernel_rfl))
 f284 := Tryz.func148.trans (congrArg some (by kernel_rfl))
 f285 := Tryz.func149.trans (congrArg some (by kernel_rfl))
 f286 := Tryz.func150.trans (congrArg some (by kernel_rfl))
 f287 := Tryz.func210.trans (congrArg some (by kernel_rfl))
 f316 := Tryz.func211.trans (congrArg some (by kernel_rfl))
 f317 := Tryz.func177.trans (congrArg some (by kernel_rfl))
 f318 := Tryz.func179.trans (congrArg some (by kernel_rfl))
 f319 := Tryz.func180.trans (congrArg some (by kernel_rfl))
 f320 := Tryz.func181.trans (congrArg some (by kernel_rfl))
 f321 := Tryz.func219.trans (congrArg some (by kernel_rfl))
 f322 := Tryz.func220.trans (congrArg some (by kernel_rfl))
 f337 := Tryz.func205.trans (congrArg some (by kernel_rfl))
 f338 := Tryz.func206.trans (congrArg some (by kernel_rfl))
 t0 := Tryz.underlying0
 a0 := Tryz.isAgg0
 z0 := Tryz.sizeOf0
 v0 := Tryz.zeroValue0
 t2 := Tryz.underlying2
 a2 := Tryz.isAgg2
 z2 := Tryz.sizeOf2
 v2 := Tryz.zeroValue2
 t3 := Tryz.underlying3
 a3 := Tryz.isAgg3
 z3 := Tryz.sizeOf3
 v3 := Tryz.zeroValue3
 t4 := Tryz.underlying4
 a4 := Tryz.isAgg4
 z4 := Tryz.sizeOf4
 v4 := Tryz.zeroValue4
 t5 := Tryz.underlying5
 a5 := Tryz.isAgg5
 z5 := Tryz.sizeOf5
 v5 := Tryz.zeroValue5
 t9 := Tryz.underlying9
 a9 := Tryz.isAgg9
 z9 := Tryz.sizeOf9
 v9 := Tryz.zeroValue9
 t20 := Tryz.underlying20
 a20 := Tryz.isAgg20
 z20 := Tryz.sizeOf20
 v20 := Tryz.zeroValue20
 t21 := Tryz.underlying21
 a21 := Tryz.isAgg21
 z21 := Tryz.sizeOf21
 v21 := Tryz.zeroValue21
 t37 := Tryz.underlying152
 a37 := Tryz.isAgg152
 z37 := Tryz.sizeOf152
 v37 := Tryz.zeroValue152
 t46 := Tryz.underlying188
 a46 := Tryz.isAgg188
 z46 := Tryz.sizeOf188
 v46 := Tryz.zeroValue188
 t51 := Tryz.underlying186
 a51 := Tryz.isAgg186
 z51 := Tryz.sizeOf186
 v51 := Tryz.zeroValue186
 t53 := Tryz.underlying165
 a53 := Tryz.isAgg165
 z53 := Tryz.sizeOf165
 v53 := Tryz.zeroValue165
 t75 := Tryz.underlying141
 a75 := Tryz.isAgg141
 z75 := Tryz.sizeOf141
 v75 := Tryz.zeroValue141
 t76 := Tryz.underlying142
 a76 := Tryz.isAgg142
 z76 := Tryz.sizeOf142
 v76 := Tryz.zeroValue142
 t85 := Tryz.underlying198
 a85 := Tryz.isAgg198
 z85 := Tryz.sizeOf198
 v85 := Tryz.zeroValue198
 t127 := Tryz.underlying180
 a127 := Tryz.isAgg180
 z127 := Tryz.sizeOf180
 v127 := Tryz.zeroValue180
 t143 := Tryz.underlying228
 a143 := Tryz.isAgg228
 z143 := Tryz.sizeOf228
 v143 := Tryz.zeroValue228
 t145 := Tryz.underlying230
 a145 := Tryz.isAgg230
 z145 := Tryz.sizeOf230
 v145 := Tryz.zeroValue230
 t167 := Tryz.underlying197
 a167 := Tryz.isAgg197
 z167 := Tryz.sizeOf197
 v167 := Tryz.zeroValue197
 t168 := Tryz.underlying200
 a168 := Tryz.isAgg200
 z168 := Tryz.sizeOf200
 v168 := Tryz.zeroValue200
 t171 := Tryz.underlying164
 a171 := Tryz.isAgg164
 z171 := Tryz.sizeOf164
 v171 := Tryz.zeroValue164
 t173 := Tryz.underlying168
 a173 := Tryz.isAgg168
 z173 := Tryz.sizeOf168
 v173 := Tryz.zeroValue168
 t175 := Tryz.underlying213
 a175 := Tryz.isAgg213
 z175 := Tryz.sizeOf213
 v175 := Tryz.zeroValue213
 t210 := Tryz.underlying216
 a210 := Tryz.isAgg216
 z210 := Tryz.sizeOf216
 v210 := Tryz.zeroValue216
 t212 := Tryz.underlying185
 a212 := Tryz.isAgg185
 z212 := Tryz.sizeOf185
 v212 := Tryz.zeroValue185
 t213 := Tryz.underlying187
 a213 := Tryz.isAgg187
 z213 := Tryz.sizeOf187
 t232 := Tryz.underlying218
 a232 := Tryz.isAgg218
 z232 := Tryz.sizeOf218
 v232 := Tryz.zeroValue218
 t233 := Tryz.underlying219
 a233 := Tryz.isAgg219
 z233 := Tryz.sizeOf219
 v233 := Tryz.zeroValue219
 g15 := by kernel_rfl
 g16 := by kernel_rfl
 g17 := by kernel_rfl
 g18 := by kernel_rfl
 g19 := by kernel_rfl
 t80 := Tryz.underlying156
 a80 := Tryz.isAgg156
 z80 := Tryz.sizeOf156
 v80 := Tryz.zeroValue156
 i0 := by kernel_rfl
 i2 := by kernel_rfl
 i3 := by kernel_rfl
 i4 := by kernel_rfl
 i5 := by kernel_rfl
 i9 := by kernel_rfl
 i20 := by kernel_rfl
 i21 := by kernel_rfl
 i37 := by kernel_rfl
 i46 := by kernel_rfl
 i51 := by kernel_rfl
 i53 := by kernel_rfl
 i75 := by kernel_rfl
 i76 := by kernel_rfl
 i80 := by kernel_rfl
 i85 := by kernel_rfl
 i127 := by kernel_rfl
 i143 := by kernel_rfl
 i145 := by kernel_rfl
 i167 := by kernel_rfl
 i168 := by kernel_rfl
 i171 := by kernel_rfl
 i173 := by kernel_rfl
 i175 := by kernel_rfl
 i210 := by kernel_rfl
 i212 := by kernel_rfl
 i232 := by kernel_rfl
 i233 := by kernel_rfl
 m15 := by kernel_rfl
 m16 := by kernel_rfl
 m17 := by kernel_rfl
 m18 := by kernel_rfl
 m19 := by kernel_rfl
 c0 := by kernel_rfl
 c2 := by kernel_rfl
 c3 := by kernel_rfl
 c4 := by kernel_rfl
 c5 := by kernel_rfl
 c9 := by kernel_rfl
 c20 := by kernel_rfl
 c21 := by kernel_rfl
 c37 := by kernel_rfl
 c46 := by kernel_rfl
 c51 := by kernel_rfl
 c53 := by kernel_rfl
 c75 := by kernel_rfl
 c76 := by kernel_rfl
 c80 := by kernel_rfl
 c85 := by kernel_rfl
 c127 := by kernel_rfl
 c143 := by kernel_rfl
 c145 := by kernel_rfl
 c167 := by kernel_rfl
 c168 := by kernel_rfl
 c171 := by kernel_rfl
 c173 := by kernel_rfl
 c175 := by kernel_rfl
 c210 := by kernel_rfl
 c212 := by kernel_rfl
 c213 := by kernel_rfl
 c232 := by kernel_rfl
 c233 := by kernel_rfl }
open Go.RowKit in
theorem Tryz.strconv_Atoi_ok (s : ByteArray) (hmax : s.size ≤ 9223372036854775806) (v : Int) (h : Lib.atoiAll s.data.toList = .ok v) (w : World) :
  Calls Tryz.prog 111 #[.string s] w fun e w' => e = .returned (.tuple #[.int .i64 v, .nilIface]) ∧ (w' = w ∨ ∃ t, w' = Lib.bytesWorld w 5 t) := Any.strconv_Atoi_ok Tryz.laysC172 s hmax v h w
def Tryz.lays99_ren : Go.Shelf.Ren := ⟨fun | 99 => 159 | 206 => 191 | n => n, fun | 9 => 9 | 4 => 4 | 3 => 3 | n => n, fun | n => n⟩
theorem Tryz.lays99 : Go.Proofs.Lays.n99 Tryz.prog Tryz.lays99_ren := {
 mixed := by kernel_rfl
 f99 := Tryz.func159.trans (congrArg some (by kernel_rfl))
 f206 := Tryz.func191.trans (congrArg some (by kernel_rfl))
 t3 := Tryz.underlying3
 a3 := Tryz.isAgg3
 z3 := Tryz.sizeOf3
 v3 := Tryz.zeroValue3
 t4 := Tryz.underlying4
 a4 := Tryz.isAgg4
 z4 := Tryz.sizeOf4
 v4 := Tryz.zeroValue4
 t9 := Tryz.underlying9
 a9 := Tryz.isAgg9
 z9 := Tryz.sizeOf9
 v9 := Tryz.zeroValue9 }
open Go.RowKit Go.Lib in
theorem Tryz.strings_HasPrefix (s p : ByteArray) (w : World) :
  Calls Tryz.prog 159 #[.string s, .string p] w fun e w' => e = .returned (.bool (Lib.hasPrefix s.data.toList p.data.toList)) ∧ w' = w := Any.strings_HasPrefix Tryz.lays99 s p w
def Tryz.lays146_ren : Go.Shelf.Ren := ⟨fun | 146 => 119 | 221 => 162 | 268 => 197 | 138 => 198 | 143 => 199 | 195 => 213 | 197 => 182 | 218 => 214 | 219 => 215 | 260 => 207 | 217 => 154 | 225 => 190 | 224 => 189 | 267 => 221 | 266 => 187 | 314 => 222 | n => n, fun | 9 => 9 | 31 => 72 | 3 => 3 | 4 => 4 | 0 => 0 | 105 => 190 | 21 => 21 | 5 => 5 | 46 => 188 | 119 => 220 | 139 => 223 | 138 => 222 | 146 => 235 | 51 => 186 | n => n, fun | 1 => 1 | 3 => 7 | 4 => 8 | n => n⟩
theorem Tryz.lays146 : Go.Proofs.Lays.n146 Tryz.prog Tryz.lays146_ren := {
 mixed := by kernel_rfl
 f138 := Tryz.func198.trans (congrArg some (by kernel_rfl))
 f143 := Tryz.func199.trans (congrArg some (by kernel_rfl))
 f146 := Tryz.func119.trans (congrArg some (by kernel_rfl))
 f195 := Tryz.func213.trans (congrArg some (by kernel_rfl))
 f197 := Tryz.func182.trans (congrArg some (by kernel_rfl))
 f217 := Tryz.func154.trans (congrArg some (by kernel_rfl))
 f218 := Tryz.func214.trans (congrArg some (by kernel_rfl))
 f219 := Tryz.func215.trans (congrArg some (by kernel_rfl))
 f221 := Tryz.func162.trans (congrArg some (by kernel_rfl))
 f224 := Tryz.func189.trans (congrArg some (by kernel_rfl))
 f225 := Tryz.func190.trans (congrArg some (by kernel_rfl))
 f260 := Tryz.func207.trans (congrArg some (by kernel_rfl))
 f266 := Tryz.func187.trans (congrArg some (by kernel_rfl))
 f267 := Tryz.func221.trans (congrArg some (by kernel_rfl))
 f268 := Tryz.func197.trans (congrArg some (by kernel_rfl))
 f314 := Tryz.func222.trans (congrArg some (by kernel_rfl))
 t0 := Tryz.underlying0
 a0 := Tryz.isAgg0
 z0 := Tryz.sizeOf0
 v0 := Tryz.zeroValue0
 t3 := Tryz.underlying3
 a3 := Tryz.isAgg3
 z3 := Tryz.sizeOf3
 v3 := Tryz.zeroValue3
 t4 := Tryz.underlying4
 a4 := Tryz.isAgg4
 z4 := Tryz.sizeOf4
 v4 := Tryz.zeroValue4
 t5 := Tryz.underlying5
 a5 := Tryz.isAgg5
 z5 := Tryz.sizeOf5
 v5 := Tryz.zeroValue5
 t9 := Tryz.underlying9
 a9 := Tryz.isAgg9
 z9 := Tryz.sizeOf9
 v9 := Tryz.zeroValue9
 t21 := Tryz.underlying21
 a21 := Tryz.isAgg21
 z21 := Tryz.sizeOf21
 v21 := Tryz.zeroValue21
 t31 := Tryz.underlying72
 a31 := Tryz.isAgg72
 z31 := Tryz.sizeOf72
 v31 := Tryz.zeroValue72
 t46 := Tryz.underlying188
 a46 := Tryz.isAgg188
 z46 := Tryz.sizeOf188
 v46 := Tryz.zeroValue188
 t51 := Tryz.underlying186
 a51 := Tryz.isAgg186
 z51 := Tryz.sizeOf186
 v51 := Tryz.zeroValue186
 t105 := Tryz.underlying190
 a105 := Tryz.isAgg190
 z105 := Tryz.sizeOf190
 v105 := Tryz.zeroValue190
 t119 := Tryz.underlying220
 a119 := Tryz.isAgg220
 z119 := Tryz.sizeOf220
 t138 := Tryz.underlying222
 a138 := Tryz.isAgg222
 z138 := Tryz.sizeOf222
 v138 := Tryz.zeroValue222
 t139 := Tryz.underlying223
 a139 := Tryz.isAgg223
 z139 := Tryz.sizeOf223
 v139 := Tryz.zeroValue223
 t146 := Tryz.underlying235
 a146 := Tryz.isAgg235
 z146 := Tryz.sizeOf235
 v146 := Tryz.zeroValue235
 g1 := by kernel_rfl
 g3 := by kernel_rfl
 g4 := by kernel_rfl }
open Go.RowKit Go.Lib in
theorem Tryz.strings_Split (s sep : ByteArray) (m : Int) (w : World) (hs : s.size < 4294967281) (hm : w.cell? ⟨1, 0, none⟩ = some (.int .i64 m)) (h1 : 1 ≤ sep.size) :
  Calls Tryz.prog 119 #[.string s, .string sep] w fun e w' =>
   e = .returned (.slice (some ⟨w.heap.size, 0, none⟩) (Lib.countB s sep + 1) (Lib.countB s sep + 1)) ∧ w' = w.alloc (.cells ((Lib.splitB sep 0 (Lib.countB s sep) s).map Value.string).toArray 9) := Any.strings_Split Tryz.lays146 (by kernel_rfl) s sep m w hs hm h1
def Tryz.laysM146_ren : Go.Shelf.Ren := ⟨fun | 146 => 119 | 221 => 162 | 268 => 197 | 138 => 198 | 143 => 199 | 195 => 213 | 197 => 182 | 218 => 214 | 219 => 215 | 260 => 207 | 217 => 154 | 225 => 190 | 224 => 189 | 267 => 221 | 266 => 187 | 314 => 222 | n => n, fun | 9 => 9 | 31 => 72 | 3 => 3 | 4 => 4 | 0 => 0 | 105 => 190 | 21 => 21 | 5 => 5 | 46 => 188 | 119 => 220 | 139 => 223 | 138 => 222 | 146 => 235 | 51 => 186 | n => n, fun | 1 => 1 | 3 => 7 | 4 => 8 | n => n⟩
theorem Tryz.laysM146 : Go.Proofs.LaysM.n146 Tryz.prog Tryz.laysM146_ren := {
 mixed := by kernel_rfl
 f138 := Tryz.func198.trans (congrArg some (by kernel_rfl))
 f143 := Tryz.func199.trans (congrArg some (by kernel_rfl))
 f146 := Tryz.func119.trans (congrArg some (by kernel_rfl))
 f195 := Tryz.func213.trans (congrArg some (by kernel_rfl))
 f197 := Tryz.func182.trans (congrArg some (by kernel_rfl))
 f217 := Tryz.func154.trans (congrArg some (by kernel_rfl))
 f218 := Tryz.func214.trans (congrArg some (by kernel_rfl))
 f219 := Tryz.func215.trans (congrArg some (by kernel_rfl))
 f221 := Tryz.func162.trans (congrArg some (by kernel_rfl))
 f224 := Tryz.func189.trans (congrArg some (by kernel_rfl))
 f225 := Tryz.func190.trans (congrArg some (by kernel_rfl))
 f260 := Tryz.func207.trans (congrArg some (by kernel_rfl))
 f266 := Tryz.func187.trans (congrArg some (by kernel_rfl))
 f267 := Tryz.func221.trans (congrArg some (by kernel_rfl))
 f268 := Tryz.func197.trans (congrArg some (by kernel_rfl))
 f314 := Tryz.func222.trans (congrArg some (by kernel_rfl))
 t0 := Tryz.underlying0
 a0 := Tryz.isAgg0
 z0 := Tryz.sizeOf0
 v0 := Tryz.zeroValue0
 t3 := Tryz.underlying3
 a3 := Tryz.isAgg3
 z3 := Tryz.sizeOf3
 v3 := Tryz.zeroValue3
 t4 := Tryz.underlying4
 a4 := Tryz.isAgg4
 z4 := Tryz.sizeOf4
 v4 := Tryz.zeroValue4
 t5 := Tryz.underlying5
 a5 := Tryz.isAgg5
 z5 := Tryz.sizeOf5
 v5 := Tryz.zeroValue5
 t9 := Tryz.underlying9
 a9 := Tryz.isAgg9
 z9 := Tryz.sizeOf9
 v9 := Tryz.zeroValue9
 t21 := Tryz.underlying21
 a21 := Tryz.isAgg21
 z21 := Tryz.sizeOf21
 v21 := Tryz.zeroValue21
 t31 := Tryz.underlying72
 a31 := Tryz.isAgg72
 z31 := Tryz.sizeOf72
 v31 := Tryz.zeroValue72
 t46 := Tryz.underlying188
 a46 := Tryz.isAgg188
 z46 := Tryz.sizeOf188
 v46 := Tryz.zeroValue188
 t51 := Tryz.underlying186
 a51 := Tryz.isAgg186
 z51 := Tryz.sizeOf186
 v51 := Tryz.zeroValue186
 t105 := Tryz.underlying190
 a105 := Tryz.isAgg190
 z105 := Tryz.sizeOf190
 v105 := Tryz.zeroValue190
 t119 := Tryz.underlying220
 a119 := Tryz.isAgg220
 z119 := Tryz.sizeOf220
 t138 := Tryz.underlying222
 a138 := Tryz.isAgg222
 z138 := Tryz.sizeOf222
 v138 := Tryz.zeroValue222
 t139 := Tryz.underlying223
 a139 := Tryz.isAgg223
 z139 := Tryz.sizeOf223
 v139 := Tryz.zeroValue223
 t146 := Tryz.underlying235
 a146 := Tryz.isAgg235
 z146 := Tryz.sizeOf235
 v146 := Tryz.zeroValue235
 g1 := by kernel_rfl
 g3 := by kernel_rfl
 g4 := by kernel_rfl
 i0 := by kernel_rfl
 i3 := by kernel_rfl
 i4 := by kernel_rfl
 i5 := by kernel_rfl
 i9 := by kernel_rfl
 i21 := by kernel_rfl
 i31 := by kernel_rfl
 i46 := by kernel_rfl
 i51 := by kernel_rfl
 i105 := by kernel_rfl
 i138 := by kernel_rfl
 i139 := by kernel_rfl
 i146 := by kernel_rfl
 m1 := by kernel_rfl
 s1_3 := fun w h => Go.Proofs.cell_of_shapedOpen_int (zero := #[.int .i64 0]) (t := 3) h (of_decide_eq_true (by kernel_rfl)) (by kernel_rfl) rfl (by kernel_rfl) (by kernel_rfl) Tryz.underlying3
 m3 := by kernel_rfl
 m4 := by kernel_rfl }
def Tryz.lays152_ren : Go.Shelf.Ren := ⟨fun | 152 => 155 | 137 => 108 | 119 => 188 | 224 => 189 | 225 => 190 | 217 => 154 | 266 => 187 | n => n, fun | 9 => 9 | 21 => 21 | 3 => 3 | 4 => 4 | 5 => 5 | 0 => 0 | 46 => 188 | n => n, fun | n => n⟩
theorem Tryz.lays152 : Go.Proofs.Lays.n152 Tryz.prog Tryz.lays152_ren := {
 mixed := by kernel_rfl
 f119 := Tryz.func188.trans (congrArg some (by kernel_rfl))
 f137 := Tryz.func108.trans (congrArg some (by kernel_rfl))
 f152 := Tryz.func155.trans (congrArg some (by kernel_rfl))
 f217 := Tryz.func154.trans (congrArg some (by kernel_rfl))
 f224 := Tryz.func189.trans (congrArg some (by kernel_rfl))
 f225 := Tryz.func190.trans (congrArg some (by kernel_rfl))
 f266 := Tryz.func187.trans (congrArg some (by kernel_rfl))
 t0 := Tryz.underlying0
 a0 := Tryz.isAgg0
 z0 := Tryz.sizeOf0
 v0 := Tryz.zeroValue0
 t3 := Tryz.underlying3
 a3 := Tryz.isAgg3
 z3 := Tryz.sizeOf3
 v3 := Tryz.zeroValue3
 t4 := Tryz.underlying4
 a4 := Tryz.isAgg4
 z4 := Tryz.sizeOf4
 v4 := Tryz.zeroValue4
 t5 := Tryz.underlying5
 a5 := Tryz.isAgg5
 z5 := Tryz.sizeOf5
 v5 := Tryz.zeroValue5
 t9 := Tryz.underlying9
 a9 := Tryz.isAgg9
 z9 := Tryz.sizeOf9
 v9 := Tryz.zeroValue9
 t21 := Tryz.underlying21
 a21 := Tryz.isAgg21
 z21 := Tryz.sizeOf21
 v21 := Tryz.zeroValue21
 t46 := Tryz.underlying188
 a46 := Tryz.isAgg188
 z46 := Tryz.sizeOf188
 v46 := Tryz.zeroValue188 }
open Go.RowKit Go.Lib in
theorem Tryz.strings_IndexRune_ascii (s : ByteArray) (r : Int) (w : World) (h0 : 0 ≤ r) (h1 : r < 128) :
  Calls Tryz.prog 155 #[.string s, .int .i32 r] w fun e w' => e = .returned (.int .i64 (Lib.indexByte s.data.toList r.toNat.toUInt8)) ∧ w' = w := Any.strings_IndexRune_ascii Tryz.lays152 s r w h0 h1
def Tryz.lays226_ren : Go.Shelf.Ren := ⟨fun | 226 => 156 | n => n, fun | 3 => 3 | 4 => 4 | n => n, fun | n => n⟩
theorem Tryz.lays226 : Go.Proofs.Lays.n226 Tryz.prog Tryz.lays226_ren := {
 mixed := by kernel_rfl
 f226 := Tryz.func156.trans (congrArg some (by kernel_rfl))
 t3 := Tryz.underlying3
 a3 := Tryz.isAgg3
 z3 := Tryz.sizeOf3
 v3 := Tryz.zeroValue3
 t4 := Tryz.underlying4
 a4 := Tryz.isAgg4
 z4 := Tryz.sizeOf4
 v4 := Tryz.zeroValue4 }
open Go.RowKit Go.Lib in
theorem Tryz.strings_shouldUseASCIISet (n : Int) (w : World) :
  Calls Tryz.prog 156 #[.int .i64 n] w fun e w' => e = .returned (.bool (decide (8 < n))) ∧ w' = w := Any.strings_shouldUseASCIISet Tryz.lays226 n w
def Tryz.lays153_ren : Go.Shelf.Ren := ⟨fun | 153 => 109 | 152 => 155 | 226 => 156 | 227 => 157 | 228 => 158 | 137 => 108 | 119 => 188 | 224 => 189 | 225 => 190 | 217 => 154 | 266 => 187 | n => n, fun | 9 => 9 | 3 => 3 | 4 => 4 | 5 => 5 | 21 => 21 | 117 => 175 | 116 => 174 | 0 => 0 | 46 => 188 | 124 => 196 | n => n, fun | n => n⟩
theorem Tryz.lays153 : Go.Proofs.Lays.n153 Tryz.prog Tryz.lays153_ren := {
 mixed := by kernel_rfl
 f119 := Tryz.func188.trans (congrArg some (by kernel_rfl))
 f137 := Tryz.func108.trans (congrArg some (by kernel_rfl))
 f152 := Tryz.func155.trans (congrArg some (by kernel_rfl))
 f153 := Tryz.func109.trans (congrArg some (by kernel_rfl))
 f217 := Tryz.func154.trans (congrArg some (by kernel_rfl))
 f224 := Tryz.func189.trans (congrArg some (by kernel_rfl))
 f225 := Tryz.func190.trans (congrArg some (by kernel_rfl))
 f226 := Tryz.func156.trans (congrArg some (by kernel_rfl))
 f227 := Tryz.func157.trans (congrArg some (by kernel_rfl))
 f228 := Tryz.func158.trans (congrArg some (by kernel_rfl))
 f266 := Tryz.func187.trans (congrArg some (by kernel_rfl))
 t0 := Tryz.underlying0
 a0 := Tryz.isAgg0
 z0 := Tryz.sizeOf0
 v0 := Tryz.zeroValue0
 t3 := Tryz.underlying3
 a3 := Tryz.isAgg3
 z3 := Tryz.sizeOf3
 v3 := Tryz.zeroValue3
 t4 := Tryz.underlying4
 a4 := Tryz.isAgg4
 z4 := Tryz.sizeOf4
 v4 := Tryz.zeroValue4
 t5 := Tryz.underlying5
 a5 := Tryz.isAgg5
 z5 := Tryz.sizeOf5
 v5 := Tryz.zeroValue5
 t9 := Tryz.underlying9
 a9 := Tryz.isAgg9
 z9 := Tryz.sizeOf9
 v9 := Tryz.zeroValue9
 t21 := Tryz.underlying21
 a21 := Tryz.isAgg21
 z21 := Tryz.sizeOf21
 v21 := Tryz.zeroValue21
 t46 := Tryz.underlying188
 a46 := Tryz.isAgg188
 z46 := Tryz.sizeOf188
 v46 := Tryz.zeroValue188
 t116 := Tryz.underlying174
 a116 := Tryz.isAgg174
 z116 := Tryz.sizeOf174
 t117 := Tryz.underlying175
 a117 := Tryz.isAgg175
 z117 := Tryz.sizeOf175
 v117 := Tryz.zeroValue175
 t124 := Tryz.underlying196
 a124 := Tryz.isAgg196
 z124 := Tryz.sizeOf196
 v124 := Tryz.zeroValue196 }
open Go.RowKit Go.Lib in
theorem Tryz.strings_IndexAny_long (hv116 : ∀ w, (zeroValue 174).run Tryz.prog w = .ok (.agg (Array.replicate 256 (.bool false))) w) (s chars : ByteArray) (w : World) (h2 : 2 ≤ chars.size) (h8 : 8 < s.size) (hs : s.size < 4294967281) (hcs : chars.size < 4294967281) (hascii : ∀ (j : Nat) b, chars.data.toList[j]? = some b → b.toNat < 128) :
  Calls Tryz.prog 109 #[.string s, .string chars] w fun e w' => e = .returned (.int .i64 (Lib.indexAny s.data.toList chars.data.toList)) ∧ w' = ((w.alloc (.cells (Lib.setCells chars.data.toList) 174)).alloc (.cells (Lib.setCells chars.data.toList) 174)) := Any.strings_IndexAny_long Tryz.lays153 hv116 (by kernel_rfl) s chars w h2 h8 hs hcs hascii
end Go.Proofs
