/-
 The shelf's contracts of Go's library at this translation, as the kit's own program lays them in plain declarations (remarks struck).
-/
import Derived.Shelf.Strings.Builder1
import Derived.Shelf.Strings.Builder2
import Derived.Shelf.Strings.OnBuilder
import Derived.Shelf.Small.Utf8
import Derived.Shelf.Small.Strs
import Derived.Shelf.Small.Wraps
import Derived.Shelf.Strconv.Atoi
import Derived.Shelf.Strconv.Itoa0
import Derived.Shelf.Strconv.Itoa1
import Derived.Shelf.LaysM
import Derived.Shelf.Strconv.Itoa2
import Derived.Shelf.Strconv.Itoa3
import Derived.Shelf.Strconv.AtoiErrFast
import Derived.Shelf.Strconv.ParseIntEmpty
import Derived.Shelf.Strconv.AtoiFail
import Derived.Shelf.Strconv.Clone
import Derived.Shelf.Strconv.SyntaxError
import Derived.Shelf.LaysC
import Derived.Shelf.Strconv.ToError
import Derived.Shelf.Strconv.Lower
import Derived.Shelf.Strconv.ParseUint10
import Derived.Shelf.Strconv.ParseUint10Empty
import Derived.Shelf.Strconv.ParseUint10Any
import Derived.Shelf.Strconv.ParseInt10
import Derived.Shelf.Strconv.AtoiLong
import Derived.Shelf.Strconv.AtoiInnerAll
import Derived.Shelf.Strconv.RangeError
import Derived.Shelf.Strconv.ToErrorRange
import Derived.Shelf.Strconv.AtoiAll
import Derived.Shelf.Strconv.ErrVarAll
import Derived.Shelf.Strings.Search1
import Derived.Shelf.Strings.Search2
import Derived.Shelf.Strings.Search3
import Derived.Shelf.Strings.Count
import Derived.Shelf.Strings.Shaped
import Derived.Shelf.Strings.Prefix
import Derived.Shelf.Strings.Split
import Derived.Shelf.Strings.Replace
import Derived.Shelf.Strings.SplitShaped
import Derived.Shelf.Unicode.Latin
import Derived.Shelf.Strings.Runes
import Derived.Shelf.Strings.IndexAny
import Derived.Shelf.Strings.AsciiSet
import Derived.Shelf.Strings.IndexAnyAll
import Derived.Shelf.Unicode.DecodeSlow
import Derived.Shelf.Unicode.CaseLookup
import Derived.Shelf.Unicode.CaseConvert
import Derived.Shelf.Unicode.CaseTo
import Derived.Shelf.Unicode.CaseLaid
import Derived.Shelf.Slices.Equal
import Derived.Shelf.Slices.Empties2
import Derived.Test.YtomcebcaendilaaGreatDoorProg
import Derived.Shelf.Strings.SlTrimAscii
namespace Go.Proofs
open Go.Shelf
def Tryz.lays159_ren : Go.Shelf.Ren := ⟨fun | 159 => 153 | 165 => 169 | 166 => 170 | 167 => 172 | 169 => 171 | 230 => 173 | 204 => 174 | 240 => 191 | 241 => 192 | 197 => 155 | 118 => 193 | 168 => 194 | 270 => 195 | 262 => 196 | 276 => 201 | 277 => 202 | 260 => 175 | 242 => 203 | 313 => 204 | 278 => 205 | 274 => 206 | 275 => 207 | n => n, fun | 9 => 9 | 4 => 4 | 3 => 3 | 5 => 5 | 72 => 162 | 0 => 0 | 76 => 108 | 75 => 107 | 107 => 167 | 70 => 160 | 20 => 20 | 37 => 135 | 127 => 174 | 21 => 21 | 105 => 146 | 164 => 196 | 162 => 202 | 203 => 200 | 119 => 187 | 46 => 156 | 139 => 190 | 138 => 189 | 51 => 170 | 160 => 205 | 208 => 211 | 206 => 209 | 80 => 164 | n => n, fun | 13 => 6 | 3 => 4 | 4 => 5 | n => n⟩
theorem Tryz.lays159 : Go.Proofs.Lays.n159 Tryz.prog Tryz.lays159_ren := {
 mixed := by kernel_rfl
 f118 := Tryz.func193.trans (congrArg some (by kernel_rfl))
 f159 := Tryz.func153.trans (congrArg some (by kernel_rfl))
 f165 := Tryz.func169.trans (congrArg some (by kernel_rfl))
 f166 := Tryz.func170.trans (congrArg some (by kernel_rfl))
 f167 := Tryz.func172.trans (congrArg some (by kernel_rfl))
 f168 := Tryz.func194.trans (congrArg some (by kernel_rfl))
 f169 := Tryz.func171.trans (congrArg some (by kernel_rfl))
 f197 := Tryz.func155.trans (congrArg some (by kernel_rfl))
 f204 := Tryz.func174.trans (congrArg some (by kernel_rfl))
 f230 := Tryz.func173.trans (congrArg some (by kernel_rfl))
 f240 := Tryz.func191.trans (congrArg some (by kernel_rfl))
 f241 := Tryz.func192.trans (congrArg some (by kernel_rfl))
 f242 := Tryz.func203.trans (congrArg some (by kernel_rfl))
 f260 := Tryz.func175.trans (congrArg some (by kernel_rfl))
 f262 := Tryz.func196.trans (congrArg some (by kernel_rfl))
 f270 := Tryz.func195.trans (congrArg some (by kernel_rfl))
 f274 := Tryz.func206.trans (congrArg some (by kernel_rfl))
 f275 := Tryz.func207.trans (congrArg some (by kernel_rfl))
 f276 := Tryz.func201.trans (congrArg some (by kernel_rfl))
 f277 := Tryz.func202.trans (congrArg some (by kernel_rfl))
 f278 := Tryz.func205.trans (congrArg some (by kernel_rfl))
 f313 := Tryz.func204.trans (congrArg some (by kernel_rfl))
 t0 := Tryz.underlying0
 a0 := Tryz.isAgg0
 z0 := Tryz.sizeOf0
 v0 := Tryz.zeroValue0
 t3 := Tryz.underlying3
 a3 := Tryz.isAgg3
 z3 := Tryz.sizeOf3
 v3 := Tryz.zeroValue3
 t4 := Tryz.underlying4
 a4 := Tryz.isAgg4
 z4 := Tryz.sizeOf4
 v4 := Tryz.zeroValue4
 t5 := Tryz.underlying5
 a5 := Tryz.isAgg5
 z5 := Tryz.sizeOf5
 v5 := Tryz.zeroValue5
 t9 := Tryz.underlying9
 a9 := Tryz.isAgg9
 z9 := Tryz.sizeOf9
 v9 := Tryz.zeroValue9
 t20 := Tryz.underlying20
 a20 := Tryz.isAgg20
 z20 := Tryz.sizeOf20
 v20 := Tryz.zeroValue20
 t21 := Tryz.underlying21
 a21 := Tryz.isAgg21
 z21 := Tryz.sizeOf21
 v21 := Tryz.zeroValue21
 t37 := Tryz.underlying135
 a37 := Tryz.isAgg135
 z37 := Tryz.sizeOf135
 v37 := Tryz.zeroValue135
 t46 := Tryz.underlying156
 a46 := Tryz.isAgg156
 z46 := Tryz.sizeOf156
 v46 := Tryz.zeroValue156
 t51 := Tryz.underlying170
 a51 := Tryz.isAgg170
 z51 := Tryz.sizeOf170
 v51 := Tryz.zeroValue170
 t70 := Tryz.underlying160
 a70 := Tryz.isAgg160
 z70 := Tryz.sizeOf160
 v70 := Tryz.zeroValue160
 t72 := Tryz.underlying162
 a72 := Tryz.isAgg162
 z72 := Tryz.sizeOf162
 v72 := Tryz.zeroValue162
 t75 := Tryz.underlying107
 a75 := Tryz.isAgg107
 z75 := Tryz.sizeOf107
 v75 := Tryz.zeroValue107
 t76 := Tryz.underlying108
 a76 := Tryz.isAgg108
 z76 := Tryz.sizeOf108
 v76 := Tryz.zeroValue108
 t105 := Tryz.underlying146
 a105 := Tryz.isAgg146
 z105 := Tryz.sizeOf146
 v105 := Tryz.zeroValue146
 t107 := Tryz.underlying167
 a107 := Tryz.isAgg167
 z107 := Tryz.sizeOf167
 v107 := Tryz.zeroValue167
 t119 := Tryz.underlying187
 a119 := Tryz.isAgg187
 z119 := Tryz.sizeOf187
 t127 := Tryz.underlying174
 a127 := Tryz.isAgg174
 z127 := Tryz.sizeOf174
 v127 := Tryz.zeroValue174
 t138 := Tryz.underlying189
 a138 := Tryz.isAgg189
 z138 := Tryz.sizeOf189
 v138 := Tryz.zeroValue189
 t139 := Tryz.underlying190
 a139 := Tryz.isAgg190
 z139 := Tryz.sizeOf190
 v139 := Tryz.zeroValue190
 t160 := Tryz.underlying205
 a160 := Tryz.isAgg205
 z160 := Tryz.sizeOf205
 v160 := Tryz.zeroValue205
 t162 := Tryz.underlying202
 a162 := Tryz.isAgg202
 z162 := Tryz.sizeOf202
 v162 := Tryz.zeroValue202
 t164 := Tryz.underlying196
 a164 := Tryz.isAgg196
 z164 := Tryz.sizeOf196
 v164 := Tryz.zeroValue196
 t203 := Tryz.underlying200
 a203 := Tryz.isAgg200
 z203 := Tryz.sizeOf200
 v203 := Tryz.zeroValue200
 t206 := Tryz.underlying209
 a206 := Tryz.isAgg209
 z206 := Tryz.sizeOf209
 v206 := Tryz.zeroValue209
 t208 := Tryz.underlying211
 a208 := Tryz.isAgg211
 z208 := Tryz.sizeOf211
 v208 := Tryz.zeroValue211
 g3 := by kernel_rfl
 g4 := by kernel_rfl
 g13 := by kernel_rfl }
theorem Tryz.Builder_Extra_159 : Builder.Extra Tryz.prog Tryz.lays159_ren := {
 sizeBuilder := by kernel_rfl
 liesBuilder := by kernel_rfl
 t5 := Tryz.underlying5
 a5 := Tryz.isAgg5
 z5 := Tryz.sizeOf5
 v5 := Tryz.zeroValue5
 infoByte := by kernel_rfl
 cellsByte := by kernel_rfl
 sizeByte := by kernel_rfl
 neB5 := by decide }
open Go.RowKit in
theorem Tryz.strings_ToLower_ascii (s : ByteArray) (w : World) (hs : s.size ≤ 140737488355328) (hascii : ∀ (j : Nat) (b : UInt8), s.data.toList[j]? = some b → b.toNat < 128) :
  Calls Tryz.prog 153 #[.string s] w fun e w' => e = .returned (.string ⟨(Lib.toLowerA s.data.toList).toArray⟩) ∧ Below w.heap.size w w' := Any.strings_ToLower_ascii Tryz.lays159 Tryz.Builder_Extra_159 s w hs hascii
def Tryz.lays106_ren : Go.Shelf.Ren := ⟨fun | 106 => 110 | 213 => 140 | 265 => 159 | n => n, fun | 9 => 9 | 3 => 3 | n => n, fun | n => n⟩
theorem Tryz.lays106 : Go.Proofs.Lays.n106 Tryz.prog Tryz.lays106_ren := {
 mixed := by kernel_rfl
 f106 := Tryz.func110.trans (congrArg some (by kernel_rfl))
 f213 := Tryz.func140.trans (congrArg some (by kernel_rfl))
 f265 := Tryz.func159.trans (congrArg some (by kernel_rfl))
 t3 := Tryz.underlying3
 a3 := Tryz.isAgg3
 z3 := Tryz.sizeOf3
 v3 := Tryz.zeroValue3
 t9 := Tryz.underlying9
 a9 := Tryz.isAgg9
 z9 := Tryz.sizeOf9
 v9 := Tryz.zeroValue9 }
open Go.RowKit in
theorem Tryz.strings_Compare (a b : ByteArray) (w : World) :
  Calls Tryz.prog 110 #[.string a, .string b] w fun e w' => e = .returned (.int .i64 (Lib.compareBytes a.data.toList b.data.toList)) ∧ w' = w := Any.strings_Compare Tryz.lays106 a b w
def Tryz.lays137_ren : Go.Shelf.Ren := ⟨fun | 137 => 137 | 217 => 158 | 266 => 179 | n => n, fun | 9 => 9 | 5 => 5 | 3 => 3 | n => n, fun | n => n⟩
theorem Tryz.lays137 : Go.Proofs.Lays.n137 Tryz.prog Tryz.lays137_ren := {
 mixed := by kernel_rfl
 f137 := Tryz.func137.trans (congrArg some (by kernel_rfl))
 f217 := Tryz.func158.trans (congrArg some (by kernel_rfl))
 f266 := Tryz.func179.trans (congrArg some (by kernel_rfl))
 t3 := Tryz.underlying3
 a3 := Tryz.isAgg3
 z3 := Tryz.sizeOf3
 v3 := Tryz.zeroValue3
 t5 := Tryz.underlying5
 a5 := Tryz.isAgg5
 z5 := Tryz.sizeOf5
 v5 := Tryz.zeroValue5
 t9 := Tryz.underlying9
 a9 := Tryz.isAgg9
 z9 := Tryz.sizeOf9
 v9 := Tryz.zeroValue9 }
open Go.RowKit in
theorem Tryz.strings_IndexByte (s : ByteArray) (c : Int) (w : World) :
  Calls Tryz.prog 137 #[.string s, .int .u8 c] w fun e w' => e = .returned (.int .i64 (Lib.indexByte s.data.toList c.toNat.toUInt8)) ∧ w' = w := Any.strings_IndexByte Tryz.lays137 s c w
def Tryz.lays103_ren : Go.Shelf.Ren := ⟨fun | 103 => 80 | 210 => 113 | 206 => 69 | n => n, fun | 9 => 9 | 4 => 4 | 24 => 43 | 3 => 3 | n => n, fun | n => n⟩
theorem Tryz.lays103 : Go.Proofs.Lays.n103 Tryz.prog Tryz.lays103_ren := {
 mixed := by kernel_rfl
 f103 := Tryz.func80.trans (congrArg some (by kernel_rfl))
 f206 := Tryz.func69.trans (congrArg some (by kernel_rfl))
 f210 := Tryz.func113.trans (congrArg some (by kernel_rfl))
 t3 := Tryz.underlying3
 a3 := Tryz.isAgg3
 z3 := Tryz.sizeOf3
 v3 := Tryz.zeroValue3
 t4 := Tryz.underlying4
 a4 := Tryz.isAgg4
 z4 := Tryz.sizeOf4
 v4 := Tryz.zeroValue4
 t9 := Tryz.underlying9
 a9 := Tryz.isAgg9
 z9 := Tryz.sizeOf9
 v9 := Tryz.zeroValue9
 t24 := Tryz.underlying43
 a24 := Tryz.isAgg43
 z24 := Tryz.sizeOf43
 v24 := Tryz.zeroValue43 }
open Go.RowKit in
theorem Tryz.strings_CutPrefix (s p : ByteArray) (w : World) :
  Calls Tryz.prog 80 #[.string s, .string p] w fun e w' => e = .returned (.tuple #[.string ⟨(Lib.trimPrefix s.data.toList p.data.toList).toArray⟩, .bool (Lib.hasPrefix s.data.toList p.data.toList)]) ∧ w' = w := Any.strings_CutPrefix Tryz.lays103 s p w
def Tryz.lays171_ren : Go.Shelf.Ren := ⟨fun | 171 => 77 | 243 => 112 | 246 => 141 | 283 => 160 | 284 => 161 | 285 => 162 | 286 => 163 | 129 => 181 | 317 => 180 | 318 => 182 | 319 => 183 | 320 => 184 | 337 => 198 | 338 => 199 | n => n, fun | 3 => 3 | 9 => 9 | 2 => 2 | 4 => 4 | 171 => 148 | 0 => 0 | 53 => 149 | 37 => 135 | 5 => 5 | 173 => 152 | 212 => 169 | 51 => 170 | 20 => 20 | 213 => 171 | 46 => 156 | 232 => 203 | 233 => 204 | n => n, fun | 17 => 3 | 18 => 7 | 19 => 8 | n => n⟩
theorem Tryz.lays171 : Go.Proofs.Lays.n171 Tryz.prog Tryz.lays171_ren := {
 mixed := by kernel_rfl
 f129 := Tryz.func181.trans (congrArg some (by kernel_rfl))
 f171 := Tryz.func77.trans (congrArg some (by kernel_rfl))
 f243 := Tryz.func112.trans (congrArg some (by kernel_rfl))
 f246 := Tryz.func141.trans (congrArg some (by kernel_rfl))
 f283 := Tryz.func160.trans (congrArg some (by kernel_rfl))
 f284 := Tryz.func161.trans (congrArg some (by kernel_rfl))
 f285 := Tryz.func162.trans (congrArg some (by kernel_rfl))
 f286 := Tryz.func163.trans (congrArg some (by kernel_rfl))
 f317 := Tryz.func180.trans (congrArg some (by kernel_rfl))
 f318 := Tryz.func182.trans (congrArg some (by kernel_rfl))
 f319 := Tryz.func183.trans (congrArg some (by kernel_rfl))
 f320 := Tryz.func184.trans (congrArg some (by kernel_rfl))
 f337 := Tryz.func198.trans (congrArg some (by kernel_rfl))
 f338 := Tryz.func199.trans (congrArg some (by kernel_rfl))
 t0 := Tryz.underlying0
 a0 := Tryz.isAgg0
 z0 := Tryz.sizeOf0
 v0 := Tryz.zeroValue0
 t2 := Tryz.underlying2
 a2 := Tryz.isAgg2
 z2 := Tryz.sizeOf2
 v2 := Tryz.zeroValue2
 t3 := Tryz.underlying3
 a3 := Tryz.isAgg3
 z3 := Tryz.sizeOf3
 v3 := Tryz.zeroValue3
 t4 := Tryz.underlying4
 a4 := Tryz.isAgg4
 z4 := Tryz.sizeOf4
 v4 := Tryz.zeroValue4
 t5 := Tryz.underlying5
 a5 := Tryz.isAgg5
 z5 := Tryz.sizeOf5
 v5 := Tryz.zeroValue5
 t9 := Tryz.underlying9
 a9 := Tryz.isAgg9
 z9 := Tryz.sizeOf9
 v9 := Tryz.zeroValue9
 t20 := Tryz.underlying20
 a20 := Tryz.isAgg20
 z20 := Tryz.sizeOf20
 v20 := Tryz.zeroValue20
 t37 := Tryz.underlying135
 a37 := Tryz.isAgg135
 z37 := Tryz.sizeOf135
 v37 := Tryz.zeroValue135
 t46 := Tryz.underlying156
 a46 := Tryz.isAgg156
 z46 := Tryz.sizeOf156
 v46 := Tryz.zeroValue156
 t51 := Tryz.underlying170
 a51 := Tryz.isAgg170
 z51 := Tryz.sizeOf170
 v51 := Tryz.zeroValue170
 t53 := Tryz.underlying149
 a53 := Tryz.isAgg149
 z53 := Tryz.sizeOf149
 v53 := Tryz.zeroValue149
 t171 := Tryz.underlying148
 a171 := Tryz.isAgg148
 z171 := Tryz.sizeOf148
 v171 := Tryz.zeroValue148
 t173 := Tryz.underlying152
 a173 := Tryz.isAgg152
 z173 := Tryz.sizeOf152
 v173 := Tryz.zeroValue152
 t212 := Tryz.underlying169
 a212 := Tryz.isAgg169
 z212 := Tryz.sizeOf169
 v212 := Tryz.zeroValue169
 t213 := Tryz.underlying171
 a213 := Tryz.isAgg171
 z213 := Tryz.sizeOf171
 t232 := Tryz.underlying203
 a232 := Tryz.isAgg203
 z232 := Tryz.sizeOf203
 v232 := Tryz.zeroValue203
 t233 := Tryz.underlying204
 a233 := Tryz.isAgg204
 z233 := Tryz.sizeOf204
 v233 := Tryz.zeroValue204
 g17 := by kernel_rfl
 g18 := by kernel_rfl
 g19 := by kernel_rfl }
open Go.RowKit Go.Sort Go.Lib in
theorem Tryz.strconv_Itoa_small (i : Nat) (hi : i < 100) (w : World) :
  Calls Tryz.prog 77 #[.int .i64 i] w fun e w' => e = .returned (.string ⟨(Lib.decDigits i).toArray⟩) ∧ w' = w := Any.strconv_Itoa_small Tryz.lays171 i hi w
def Tryz.laysC172_ren : Go.Shelf.Ren := ⟨fun | 172 => 81 | 244 => 114 | 245 => 115 | 247 => 142 | 279 => 143 | 280 => 144 | 281 => 145 | 282 => 146 | 287 => 164 | 316 => 165 | 171 => 77 | 205 => 166 | 321 => 185 | 322 => 186 | 243 => 112 | 246 => 141 | 283 => 160 | 284 => 161 | 285 => 162 | 286 => 163 | 129 => 181 | 317 => 180 | 318 => 182 | 319 => 183 | 320 => 184 | 337 => 198 | 338 => 199 | n => n, fun | 9 => 9 | 3 => 3 | 75 => 107 | 76 => 108 | 4 => 4 | 5 => 5 | 167 => 134 | 37 => 135 | 0 => 0 | 85 => 136 | 2 => 2 | 168 => 138 | 53 => 149 | 175 => 154 | 46 => 156 | 210 => 158 | 127 => 174 | 145 => 177 | 143 => 175 | 21 => 21 | 171 => 148 | 173 => 152 | 212 => 169 | 51 => 170 | 20 => 20 | 213 => 171 | 232 => 203 | 233 => 204 | 80 => 164 | n => n, fun | 15 => 1 | 16 => 2 | 17 => 3 | 18 => 7 | 19 => 8 | n => n⟩
theorem Tryz.laysC172 : Go.Proofs.LaysC.n172 Tryz.prog Tryz.laysC172_ren := {
 mixed := by kernel_rfl
 f129 := Tryz.func181.trans (congrArg some (by kernel_rfl))
 f171 := Tryz.func77.trans (congrArg some (by kernel_rfl))
 f172 := Tryz.func81.trans (congrArg some (by kernel_rfl))
 f205 := Tryz.func166.trans (congrArg some (by kernel_rfl))
 f243 := Tryz.func112.trans (congrArg some (by kernel_rfl))
 f244 := Tryz.func114.trans (congrArg some (by kernel_rfl))
 f245 := Tryz.func115.trans (congrArg some (by kernel_rfl))
 f246 := Tryz.func141.trans (congrArg some (by kernel_rfl))
 f247 := Tryz.func142.trans (congrArg some (by kernel_rfl))
 f279 := Tryz.func143.trans (congrArg some (by kernel_rfl))
 f280 := Tryz.func144.trans (congrArg some (by kernel_rfl))
 f281 := Tryz.func145.trans (congrArg some (by kernel_rfl))
 f282 := Tryz.func146.trans (congrArg some (by kernel_rfl))
 f283 := Tryz.func160.trans (congrArg some (by kernel_rfl))
 f284 := Tryz.func161.trans (congrArg some (by kernel_rfl))
 f285 := Tryz.func162.trans (congrArg some (by kernel_rfl))
 f286 := Tryz.func163.trans (congrArg some (by kernel_rfl))
 f287 := Tryz.func164.trans (congrArg some (by kernel_rfl))
 f316 := Tryz.func165.trans (congrArg some (by kernel_rfl))
 f317 := Tryz.func180.trans (congrArg some (by kernel_rfl))
 f318 := Tryz.func182.trans (congrArg some (by kernel_rfl))
 f319 := Tryz.func183.trans (congrArg some (by kernel_rfl))
 f320 := Tryz.func184.trans (congrArg some (by kernel_rfl))
 f321 := Tryz.func185.trans (congrArg some (by kernel_rfl))
 f322 := Tryz.func186.trans (congrArg some (by kernel_rfl))
 f337 := Tryz.func198.trans (congrArg some (by kernel_rfl))
 f338 := Tryz.func199.trans (congrArg some (by kernel_rfl))
 t0 := Tryz.underlying0
 a0 := Tryz.isAgg0
 z0 := Tryz.sizeOf0
 v0 := Tryz.zeroValue0
 t2 := Tryz.underlying2
 a2 := Tryz.isAgg2
 z2 := Tryz.sizeOf2
 v2 := Tryz.zeroValue2
 t3 := Tryz.underlying3
 a3 := Tryz.isAgg3
 z3 := Tryz.sizeOf3
 v3 := Tryz.zeroValue3
 t4 := Tryz.underlying4
 a4 := Tryz.isAgg4
 z4 := Tryz.sizeOf4
 v4 := Tryz.zeroValue4
 t5 := Tryz.underlying5
 a5 := Tryz.isAgg5
 z5 := Tryz.sizeOf5
 v5 := Tryz.zeroValue5
 t9 := Tryz.underlying9
 a9 := Tryz.isAgg9
 z9 := Tryz.sizeOf9
 v9 := Tryz.zeroValue9
 t20 := Tryz.underlying20
 a20 := Tryz.isAgg20
 z20 := Tryz.sizeOf20
 v20 := Tryz.zeroValue20
 t21 := Tryz.underlying21
 a21 := Tryz.isAgg21
 z21 := Tryz.sizeOf21
 v21 := Tryz.zeroValue21
 t37 := Tryz.underlying135
 a37 := Tryz.isAgg135
 z37 := Tryz.sizeOf135
 v37 := Tryz.zeroValue135
 t46 := Tryz.underlying156
 a46 := Tryz.isAgg156
 z46 := Tryz.sizeOf156
 v46 := Tryz.zeroValue156
 t51 := Tryz.underlying170
 a51 := Tryz.isAgg170
 z51 := Tryz.sizeOf170
 v51 := Tryz.zeroValue170
 t53 := Tryz.underlying149
 a53 := Tryz.isAgg149
 z53 := Tryz.sizeOf149
 v53 := Tryz.zeroValue149
 t75 := Tryz.underlying107
 a75 := Tryz.isAgg107
 z75 := Tryz.sizeOf107
 v75 := Tryz.zeroValue107
 t76 := Tryz.underlying108
 a76 := Tryz.isAgg108
 z76 := Tryz.sizeOf108
 v76 := Tryz.zeroValue108
 t85 := Tryz.underlying136
 a85 := Tryz.isAgg136
 z85 := Tryz.sizeOf136
 v85 := Tryz.zeroValue136
 t127 := Tryz.underlying174
 a127 := Tryz.isAgg174
 z127 := Tryz.sizeOf174
 v127 := Tryz.zeroValue174
 t143 := Tryz.underlying175
 a143 := Tryz.isAgg175
 z143 := Tryz.sizeOf175
 v143 := Tryz.zeroValue175
 t145 := Tryz.underlying177
 a145 := Tryz.isAgg177
 z145 := Tryz.sizeOf177
 v145 := Tryz.zeroValue177
 t167 := Tryz.underlying134
 a167 := Tryz.isAgg134
 z167 := Tryz.sizeOf134
 v167 := Tryz.zeroValue134
 t168 := Tryz.underlying138
 a168 := Tryz.isAgg138
 z168 := Tryz.sizeOf138
 v168 := Tryz.zeroValue138
 t171 := Tryz.underlying148
 a171 := Tryz.isAgg148
 z171 := Tryz.sizeOf148
 v171 := Tryz.zeroValue148
 t173 := Tryz.underlying152
 a173 := Tryz.isAgg152
 z173 := Tryz.sizeOf152
 v173 := Tryz.zeroValue152
 t175 := Tryz.underlying154
 a175 := Tryz.isAgg154
 z175 := Tryz.sizeOf154
 v175 := Tryz.zeroValue154
 t210 := Tryz.underlying158
 a210 := Tryz.isAgg158
 z210 := Tryz.sizeOf158
 v210 := Tryz.zeroValue158
 t212 := Tryz.underlying169
 a212 := Tryz.isAgg169
 z212 := Tryz.sizeOf169
 v212 := Tryz.zeroValue169
 t213 := Tryz.underlying171
 a213 := Tryz.isAgg171
 z213 := Tryz.sizeOf171
 t232 := Tryz.underlying203
 a232 := Tryz.isAgg203
 z232 := Tryz.sizeOf203
 v232 := Tryz.zeroValue203
 t233 := Tryz.underlying204
 a233 := Tryz.isAgg204
 z233 := Tryz.sizeOf204
 v233 := Tryz.zeroValue204
 g15 := by kernel_rfl
 g16 := by kernel_rfl
 g17 := by kernel_rfl
 g18 := by kernel_rfl
 g19 := by kernel_rfl
 t80 := Tryz.underlying164
 a80 := Tryz.isAgg164
 z80 := Tryz.sizeOf164
 v80 := Tryz.zeroValue164
 i0 := by kernel_rfl
 i2 := by kernel_rfl
 i3 := by kernel_rfl
 i4 := by kernel_rfl
 i5 := by kernel_rfl
 i9 := by kernel_rfl
 i20 := by kernel_rfl
 i21 := by kernel_rfl
 i37 := by kernel_rfl
 i46 := by kernel_rfl
 i51 := by kernel_rfl
 i53 := by kernel_rfl
 i75 := by kernel_rfl
 i76 := by kernel_rfl
 i80 := by kernel_rfl
 i85 := by kernel_rfl
 i127 := by kernel_rfl
 i143 := by kernel_rfl
 i145 := by kernel_rfl
 i167 := by kernel_rfl
 i168 := by kernel_rfl
 i171 := by kernel_rfl
 i173 := by kernel_rfl
 i175 := by kernel_rfl
 i210 := by kernel_rfl
 i212 := by kernel_rfl
 i232 := by kernel_rfl
 i233 := by kernel_rfl
 m15 := by kernel_rfl
 m16 := by kernel_rfl
 m17 := by kernel_rfl
 m18 := by kernel_rfl
 m19 := by kernel_rfl
 c0 := by kernel_rfl
 c2 := by kernel_rfl
 c3 := by kernel_rfl
 c4 := by kernel_rfl
 c5 := by kernel_rfl
 c9 := by kernel_rfl
 c20 := by kernel_rfl
 c21 := by kernel_rfl
 c37 := by kernel_rfl
 c46 := by kernel_rfl
 c51 := by kernel_rfl
 c53 := by kernel_rfl
 c75 := by kernel_rfl
 c76 := by kernel_rfl
 c80 := by kernel_rfl
 c85 := by kernel_rfl
 c127 := by kernel_rfl
 c143 := by kernel_rfl
 c145 := by kernel_rfl
 c167 := by kernel_rfl
 c168 := by kernel_rfl
 c171 := by kernel_rfl
 c173 := by kernel_rfl
 c175 := by kernel_rfl
 c210 := by kernel_rfl
 c212 := by kernel_rfl
 c213 := by kernel_rfl
 c232 := by kernel_rfl
 c233 := by kernel_rfl }
open Go.RowKit in
theorem Tryz.strconv_Atoi_ok (s : ByteArray) (hmax : s.size ≤ 9223372036854775806) (v : Int) (h : Lib.atoiAll s.data.toList = .ok v) (w : World) :
  Calls Tryz.prog 81 #[.string s] w fun e w' => e = .returned (.tuple #[.int .i64 v, .nilIface]) ∧ (w' = w ∨ ∃ t, w' = Lib.bytesWorld w 5 t) := Any.strconv_Atoi_ok Tryz.laysC172 s hmax v h w
def Tryz.lays144_ren : Go.Shelf.Ren := ⟨fun | 144 => 139 | 143 => 136 | 219 => 157 | 217 => 158 | 225 => 176 | 224 => 177 | 267 => 178 | 266 => 179 | 314 => 197 | n => n, fun | 9 => 9 | 4 => 4 | 3 => 3 | 5 => 5 | 46 => 156 | 146 => 191 | 51 => 170 | n => n, fun | 1 => 0 | n => n⟩
theorem Tryz.lays144 : Go.Proofs.Lays.n144 Tryz.prog Tryz.lays144_ren := {
 mixed := by kernel_rfl
 f143 := Tryz.func136.trans (congrArg some (by kernel_rfl))
 f144 := Tryz.func139.trans (congrArg some (by kernel_rfl))
 f217 := Tryz.func158.trans (congrArg some (by kernel_rfl))
 f219 := Tryz.func157.trans (congrArg some (by kernel_rfl))
 f224 := Tryz.func177.trans (congrArg some (by kernel_rfl))
 f225 := Tryz.func176.trans (congrArg some (by kernel_rfl))
 f266 := Tryz.func179.trans (congrArg some (by kernel_rfl))
 f267 := Tryz.func178.trans (congrArg some (by kernel_rfl))
 f314 := Tryz.func197.trans (congrArg some (by kernel_rfl))
 t3 := Tryz.underlying3
 a3 := Tryz.isAgg3
 z3 := Tryz.sizeOf3
 v3 := Tryz.zeroValue3
 t4 := Tryz.underlying4
 a4 := Tryz.isAgg4
 z4 := Tryz.sizeOf4
 v4 := Tryz.zeroValue4
 t5 := Tryz.underlying5
 a5 := Tryz.isAgg5
 z5 := Tryz.sizeOf5
 v5 := Tryz.zeroValue5
 t9 := Tryz.underlying9
 a9 := Tryz.isAgg9
 z9 := Tryz.sizeOf9
 v9 := Tryz.zeroValue9
 t46 := Tryz.underlying156
 a46 := Tryz.isAgg156
 z46 := Tryz.sizeOf156
 v46 := Tryz.zeroValue156
 t51 := Tryz.underlying170
 a51 := Tryz.isAgg170
 z51 := Tryz.sizeOf170
 v51 := Tryz.zeroValue170
 t146 := Tryz.underlying191
 a146 := Tryz.isAgg191
 z146 := Tryz.sizeOf191
 v146 := Tryz.zeroValue191
 g1 := by kernel_rfl }
open Go.RowKit Go.Lib in
theorem Tryz.strings_Contains_one (s : ByteArray) (c : UInt8) (w : World) :
  Calls Tryz.prog 139 #[.string s, .string ⟨#[c]⟩] w fun e w' => e = .returned (.bool (decide (0 ≤ Lib.indexByte s.data.toList c))) ∧ w' = w := Any.strings_Contains_one Tryz.lays144 s c w
def Tryz.lays99_ren : Go.Shelf.Ren := ⟨fun | 99 => 40 | 206 => 69 | n => n, fun | 9 => 9 | 4 => 4 | 3 => 3 | n => n, fun | n => n⟩
theorem Tryz.lays99 : Go.Proofs.Lays.n99 Tryz.prog Tryz.lays99_ren := {
 mixed := by kernel_rfl
 f99 := Tryz.func40.trans (congrArg some (by kernel_rfl))
 f206 := Tryz.func69.trans (congrArg some (by kernel_rfl))
 t3 := Tryz.underlying3
 a3 := Tryz.isAgg3
 z3 := Tryz.sizeOf3
 v3 := Tryz.zeroValue3
 t4 := Tryz.underlying4
 a4 := Tryz.isAgg4
 z4 := Tryz.sizeOf4
 v4 := Tryz.zeroValue4
 t9 := Tryz.underlying9
 a9 := Tryz.isAgg9
 z9 := Tryz.sizeOf9
 v9 := Tryz.zeroValue9 }
open Go.RowKit Go.Lib in
theorem Tryz.strings_HasPrefix (s p : ByteArray) (w : World) :
  Calls Tryz.prog 40 #[.string s, .string p] w fun e w' => e = .returned (.bool (Lib.hasPrefix s.data.toList p.data.toList)) ∧ w' = w := Any.strings_HasPrefix Tryz.lays99 s p w
def Tryz.lays146_ren : Go.Shelf.Ren := ⟨fun | 146 => 67 | 221 => 103 | 268 => 134 | 138 => 135 | 143 => 136 | 195 => 154 | 197 => 155 | 218 => 156 | 219 => 157 | 260 => 175 | 217 => 158 | 225 => 176 | 224 => 177 | 267 => 178 | 266 => 179 | 314 => 197 | n => n, fun | 9 => 9 | 31 => 58 | 3 => 3 | 4 => 4 | 0 => 0 | 105 => 146 | 21 => 21 | 5 => 5 | 46 => 156 | 119 => 187 | 139 => 190 | 138 => 189 | 146 => 191 | 51 => 170 | n => n, fun | 1 => 0 | 3 => 4 | 4 => 5 | n => n⟩
theorem Tryz.lays146 : Go.Proofs.Lays.n146 Tryz.prog Tryz.lays146_ren := {
 mixed := by kernel_rfl
 f138 := Tryz.func135.trans (congrArg some (by kernel_rfl))
 f143 := Tryz.func136.trans (congrArg some (by kernel_rfl))
 f146 := Tryz.func67.trans (congrArg some (by kernel_rfl))
 f195 := Tryz.func154.trans (congrArg some (by kernel_rfl))
 f197 := Tryz.func155.trans (congrArg some (by kernel_rfl))
 f217 := Tryz.func158.trans (congrArg some (by kernel_rfl))
 f218 := Tryz.func156.trans (congrArg some (by kernel_rfl))
 f219 := Tryz.func157.trans (congrArg some (by kernel_rfl))
 f221 := Tryz.func103.trans (congrArg some (by kernel_rfl))
 f224 := Tryz.func177.trans (congrArg some (by kernel_rfl))
 f225 := Tryz.func176.trans (congrArg some (by kernel_rfl))
 f260 := Tryz.func175.trans (congrArg some (by kernel_rfl))
 f266 := Tryz.func179.trans (congrArg some (by kernel_rfl))
 f267 := Tryz.func178.trans (congrArg some (by kernel_rfl))
 f268 := Tryz.func134.trans (congrArg some (by kernel_rfl))
 f314 := Tryz.func197.trans (congrArg some (by kernel_rfl))
 t0 := Tryz.underlying0
 a0 := Tryz.isAgg0
 z0 := Tryz.sizeOf0
 v0 := Tryz.zeroValue0
 t3 := Tryz.underlying3
 a3 := Tryz.isAgg3
 z3 := Tryz.sizeOf3
 v3 := Tryz.zeroValue3
 t4 := Tryz.underlying4
 a4 := Tryz.isAgg4
 z4 := Tryz.sizeOf4
 v4 := Tryz.zeroValue4
 t5 := Tryz.underlying5
 a5 := Tryz.isAgg5
 z5 := Tryz.sizeOf5
 v5 := Tryz.zeroValue5
 t9 := Tryz.underlying9
 a9 := Tryz.isAgg9
 z9 := Tryz.sizeOf9
 v9 := Tryz.zeroValue9
 t21 := Tryz.underlying21
 a21 := Tryz.isAgg21
 z21 := Tryz.sizeOf21
 v21 := Tryz.zeroValue21
 t31 := Tryz.underlying58
 a31 := Tryz.isAgg58
 z31 := Tryz.sizeOf58
 v31 := Tryz.zeroValue58
 t46 := Tryz.underlying156
 a46 := Tryz.isAgg156
 z46 := Tryz.sizeOf156
 v46 := Tryz.zeroValue156
 t51 := Tryz.underlying170
 a51 := Tryz.isAgg170
 z51 := Tryz.sizeOf170
 v51 := Tryz.zeroValue170
 t105 := Tryz.underlying146
 a105 := Tryz.isAgg146
 z105 := Tryz.sizeOf146
 v105 := Tryz.zeroValue146
 t119 := Tryz.underlying187
 a119 := Tryz.isAgg187
 z119 := Tryz.sizeOf187
 t138 := Tryz.underlying189
 a138 := Tryz.isAgg189
 z138 := Tryz.sizeOf189
 v138 := Tryz.zeroValue189
 t139 := Tryz.underlying190
 a139 := Tryz.isAgg190
 z139 := Tryz.sizeOf190
 v139 := Tryz.zeroValue190
 t146 := Tryz.underlying191
 a146 := Tryz.isAgg191
 z146 := Tryz.sizeOf191
 v146 := Tryz.zeroValue191
 g1 := by kernel_rfl
 g3 := by kernel_rfl
 g4 := by kernel_rfl }
open Go.RowKit Go.Lib in
theorem Tryz.strings_Split (s sep : ByteArray) (m : Int) (w : World) (hs : s.size < 4294967281) (hm : w.cell? ⟨0, 0, none⟩ = some (.int .i64 m)) (h1 : 1 ≤ sep.size) :
  Calls Tryz.prog 67 #[.string s, .string sep] w fun e w' =>
   e = .returned (.slice (some ⟨w.heap.size, 0, none⟩) (Lib.countB s sep + 1) (Lib.countB s sep + 1)) ∧ w' = w.alloc (.cells ((Lib.splitB sep 0 (Lib.countB s sep) s).map Value.string).toArray 9) := Any.strings_Split Tryz.lays146 (by kernel_rfl) s sep m w hs hm h1
def Tryz.lays155_ren : Go.Shelf.Ren := ⟨fun | 155 => 123 | 154 => 150 | 138 => 135 | 165 => 169 | 143 => 136 | 166 => 170 | 197 => 155 | 169 => 171 | 195 => 154 | 218 => 156 | 240 => 191 | 241 => 192 | 219 => 157 | 260 => 175 | 276 => 201 | 277 => 202 | 217 => 158 | 225 => 176 | 224 => 177 | 267 => 178 | 266 => 179 | 314 => 197 | n => n, fun | 9 => 9 | 3 => 3 | 4 => 4 | 72 => 162 | 0 => 0 | 76 => 108 | 105 => 146 | 21 => 21 | 5 => 5 | 70 => 160 | 20 => 20 | 37 => 135 | 75 => 107 | 127 => 174 | 164 => 196 | 46 => 156 | 119 => 187 | 139 => 190 | 138 => 189 | 146 => 191 | 51 => 170 | 80 => 164 | n => n, fun | 1 => 0 | 3 => 4 | 4 => 5 | n => n⟩
theorem Tryz.lays155 : Go.Proofs.Lays.n155 Tryz.prog Tryz.lays155_ren := {
 mixed := by kernel_rfl
 f138 := Tryz.func135.trans (congrArg some (by kernel_rfl))
 f143 := Tryz.func136.trans (congrArg some (by kernel_rfl))
 f154 := Tryz.func150.trans (congrArg some (by kernel_rfl))
 f155 := Tryz.func123.trans (congrArg some (by kernel_rfl))
 f165 := Tryz.func169.trans (congrArg some (by kernel_rfl))
 f166 := Tryz.func170.trans (congrArg some (by kernel_rfl))
 f169 := Tryz.func171.trans (congrArg some (by kernel_rfl))
 f195 := Tryz.func154.trans (congrArg some (by kernel_rfl))
 f197 := Tryz.func155.trans (congrArg some (by kernel_rfl))
 f217 := Tryz.func158.trans (congrArg some (by kernel_rfl))
 f218 := Tryz.func156.trans (congrArg some (by kernel_rfl))
 f219 := Tryz.func157.trans (congrArg some (by kernel_rfl))
 f224 := Tryz.func177.trans (congrArg some (by kernel_rfl))
 f225 := Tryz.func176.trans (congrArg some (by kernel_rfl))
 f240 := Tryz.func191.trans (congrArg some (by kernel_rfl))
 f241 := Tryz.func192.trans (congrArg some (by kernel_rfl))
 f260 := Tryz.func175.trans (congrArg some (by kernel_rfl))
 f266 := Tryz.func179.trans (congrArg some (by kernel_rfl))
 f267 := Tryz.func178.trans (congrArg some (by kernel_rfl))
 f276 := Tryz.func201.trans (congrArg some (by kernel_rfl))
 f277 := Tryz.func202.trans (congrArg some (by kernel_rfl))
 f314 := Tryz.func197.trans (congrArg some (by kernel_rfl))
 t0 := Tryz.underlying0
 a0 := Tryz.isAgg0
 z0 := Tryz.sizeOf0
 v0 := Tryz.zeroValue0
 t3 := Tryz.underlying3
 a3 := Tryz.isAgg3
 z3 := Tryz.sizeOf3
 v3 := Tryz.zeroValue3
 t4 := Tryz.underlying4
 a4 := Tryz.isAgg4
 z4 := Tryz.sizeOf4
 v4 := Tryz.zeroValue4
 t5 := Tryz.underlying5
 a5 := Tryz.isAgg5
 z5 := Tryz.sizeOf5
 v5 := Tryz.zeroValue5
 t9 := Tryz.underlying9
 a9 := Tryz.isAgg9
 z9 := Tryz.sizeOf9
 v9 := Tryz.zeroValue9
 t20 := Tryz.underlying20
 a20 := Tryz.isAgg20
 z20 := Tryz.sizeOf20
 v20 := Tryz.zeroValue20
 t21 := Tryz.underlying21
 a21 := Tryz.isAgg21
 z21 := Tryz.sizeOf21
 v21 := Tryz.zeroValue21
 t37 := Tryz.underlying135
 a37 := Tryz.isAgg135
 z37 := Tryz.sizeOf135
 v37 := Tryz.zeroValue135
 t46 := Tryz.underlying156
 a46 := Tryz.isAgg156
 z46 := Tryz.sizeOf156
 v46 := Tryz.zeroValue156
 t51 := Tryz.underlying170
 a51 := Tryz.isAgg170
 z51 := Tryz.sizeOf170
 v51 := Tryz.zeroValue170
 t70 := Tryz.underlying160
 a70 := Tryz.isAgg160
 z70 := Tryz.sizeOf160
 v70 := Tryz.zeroValue160
 t72 := Tryz.underlying162
 a72 := Tryz.isAgg162
 z72 := Tryz.sizeOf162
 v72 := Tryz.zeroValue162
 t75 := Tryz.underlying107
 a75 := Tryz.isAgg107
 z75 := Tryz.sizeOf107
 v75 := Tryz.zeroValue107
 t76 := Tryz.underlying108
 a76 := Tryz.isAgg108
 z76 := Tryz.sizeOf108
 v76 := Tryz.zeroValue108
 t105 := Tryz.underlying146
 a105 := Tryz.isAgg146
 z105 := Tryz.sizeOf146
 v105 := Tryz.zeroValue146
 t119 := Tryz.underlying187
 a119 := Tryz.isAgg187
 z119 := Tryz.sizeOf187
 t127 := Tryz.underlying174
 a127 := Tryz.isAgg174
 z127 := Tryz.sizeOf174
 v127 := Tryz.zeroValue174
 t138 := Tryz.underlying189
 a138 := Tryz.isAgg189
 z138 := Tryz.sizeOf189
 v138 := Tryz.zeroValue189
 t139 := Tryz.underlying190
 a139 := Tryz.isAgg190
 z139 := Tryz.sizeOf190
 v139 := Tryz.zeroValue190
 t146 := Tryz.underlying191
 a146 := Tryz.isAgg191
 z146 := Tryz.sizeOf191
 v146 := Tryz.zeroValue191
 t164 := Tryz.underlying196
 a164 := Tryz.isAgg196
 z164 := Tryz.sizeOf196
 v164 := Tryz.zeroValue196
 g1 := by kernel_rfl
 g3 := by kernel_rfl
 g4 := by kernel_rfl }
theorem Tryz.Builder_Extra_155 : Builder.Extra Tryz.prog Tryz.lays155_ren := {
 sizeBuilder := by kernel_rfl
 liesBuilder := by kernel_rfl
 t5 := Tryz.underlying5
 a5 := Tryz.isAgg5
 z5 := Tryz.sizeOf5
 v5 := Tryz.zeroValue5
 infoByte := by kernel_rfl
 cellsByte := by kernel_rfl
 sizeByte := by kernel_rfl
 neB5 := by decide }
open Go.RowKit Go.Lib in
theorem Tryz.strings_ReplaceAll (s old new : ByteArray) (m : Int) (w : World) (hs : s.size < 4294967281) (hm : w.cell? ⟨0, 0, none⟩ = some (.int .i64 m)) (h1 : 1 ≤ old.size) (hlen : s.size + Lib.countB s old * new.size ≤ 140737488355328) :
  Calls Tryz.prog 123 #[.string s, .string old, .string new] w fun e w' =>
   e = .returned (.string ⟨(Lib.replaceAll s.data.toList old.data.toList new.data.toList).toArray⟩) ∧ Below w.heap.size w w' := Any.strings_ReplaceAll Tryz.lays155 Tryz.Builder_Extra_155 s old new m w hs hm h1 hlen
def Tryz.laysM146_ren : Go.Shelf.Ren := ⟨fun | 146 => 67 | 221 => 103 | 268 => 134 | 138 => 135 | 143 => 136 | 195 => 154 | 197 => 155 | 218 => 156 | 219 => 157 | 260 => 175 | 217 => 158 | 225 => 176 | 224 => 177 | 267 => 178 | 266 => 179 | 314 => 197 | n => n, fun | 9 => 9 | 31 => 58 | 3 => 3 | 4 => 4 | 0 => 0 | 105 => 146 | 21 => 21 | 5 => 5 | 46 => 156 | 119 => 187 | 139 => 190 | 138 => 189 | 146 => 191 | 51 => 170 | n => n, fun | 1 => 0 | 3 => 4 | 4 => 5 | n => n⟩
theorem Tryz.laysM146 : Go.Proofs.LaysM.n146 Tryz.prog Tryz.laysM146_ren := {
 mixed := by kernel_rfl
 f138 := Tryz.func135.trans (congrArg some (by kernel_rfl))
 f143 := Tryz.func136.trans (congrArg some (by kernel_rfl))
 f146 := Tryz.func67.trans (congrArg some (by kernel_rfl))
 f195 := Tryz.func154.trans (congrArg some (by kernel_rfl))
 f197 := Tryz.func155.trans (congrArg some (by kernel_rfl))
 f217 := Tryz.func158.trans (congrArg some (by kernel_rfl))
 f218 := Tryz.func156.trans (congrArg some (by kernel_rfl))
 f219 := Tryz.func157.trans (congrArg some (by kernel_rfl))
 f221 := Tryz.func103.trans (congrArg some (by kernel_rfl))
 f224 := Tryz.func177.trans (congrArg some (by kernel_rfl))
 f225 := Tryz.func176.trans (congrArg some (by kernel_rfl))
 f260 := Tryz.func175.trans (congrArg some (by kernel_rfl))
 f266 := Tryz.func179.trans (congrArg some (by kernel_rfl))
 f267 := Tryz.func178.trans (congrArg some (by kernel_rfl))
 f268 := Tryz.func134.trans (congrArg some (by kernel_rfl))
 f314 := Tryz.func197.trans (congrArg some (by kernel_rfl))
 t0 := Tryz.underlying0
 a0 := Tryz.isAgg0
 z0 := Tryz.sizeOf0
 v0 := Tryz.zeroValue0
 t3 := Tryz.underlying3
 a3 := Tryz.isAgg3
 z3 := Tryz.sizeOf3
 v3 := Tryz.zeroValue3
 t4 := Tryz.underlying4
 a4 := Tryz.isAgg4
 z4 := Tryz.sizeOf4
 v4 := Tryz.zeroValue4
 t5 := Tryz.underlying5
 a5 := Tryz.isAgg5
 z5 := Tryz.sizeOf5
 v5 := Tryz.zeroValue5
 t9 := Tryz.underlying9
 a9 := Tryz.isAgg9
 z9 := Tryz.sizeOf9
 v9 := Tryz.zeroValue9
 t21 := Tryz.underlying21
 a21 := Tryz.isAgg21
 z21 := Tryz.sizeOf21
 v21 := Tryz.zeroValue21
 t31 := Tryz.underlying58
 a31 := Tryz.isAgg58
 z31 := Tryz.sizeOf58
 v31 := Tryz.zeroValue58
 t46 := Tryz.underlying156
 a46 := Tryz.isAgg156
 z46 := Tryz.sizeOf156
 v46 := Tryz.zeroValue156
 t51 := Tryz.underlying170
 a51 := Tryz.isAgg170
 z51 := Tryz.sizeOf170
 v51 := Tryz.zeroValue170
 t105 := Tryz.underlying146
 a105 := Tryz.isAgg146
 z105 := Tryz.sizeOf146
 v105 := Tryz.zeroValue146
 t119 := Tryz.underlying187
 a119 := Tryz.isAgg187
 z119 := Tryz.sizeOf187
 t138 := Tryz.underlying189
 a138 := Tryz.isAgg189
 z138 := Tryz.sizeOf189
 v138 := Tryz.zeroValue189
 t139 := Tryz.underlying190
 a139 := Tryz.isAgg190
 z139 := Tryz.sizeOf190
 v139 := Tryz.zeroValue190
 t146 := Tryz.underlying191
 a146 := Tryz.isAgg191
 z146 := Tryz.sizeOf191
 v146 := Tryz.zeroValue191
 g1 := by kernel_rfl
 g3 := by kernel_rfl
 g4 := by kernel_rfl
 i0 := by kernel_rfl
 i3 := by kernel_rfl
 i4 := by kernel_rfl
 i5 := by kernel_rfl
 i9 := by kernel_rfl
 i21 := by kernel_rfl
 i31 := by kernel_rfl
 i46 := by kernel_rfl
 i51 := by kernel_rfl
 i105 := by kernel_rfl
 i138 := by kernel_rfl
 i139 := by kernel_rfl
 i146 := by kernel_rfl
 m1 := by kernel_rfl
 s1_3 := fun w h => Go.Proofs.cell_of_shapedOpen_int (zero := #[.int .i64 0]) (t := 3) h (of_decide_eq_true (by kernel_rfl)) (by kernel_rfl) rfl (by kernel_rfl) (by kernel_rfl) Tryz.underlying3
 m3 := by kernel_rfl
 m4 := by kernel_rfl }
def Tryz.lays150_ren : Go.Shelf.Ren := ⟨fun | 150 => 148 | 153 => 168 | 152 => 187 | 226 => 188 | 227 => 189 | 228 => 190 | 137 => 137 | 119 => 200 | 224 => 177 | 225 => 176 | 217 => 158 | 266 => 179 | n => n, fun | 9 => 9 | 4 => 4 | 3 => 3 | 5 => 5 | 21 => 21 | 117 => 180 | 116 => 179 | 0 => 0 | 46 => 156 | 124 => 195 | n => n, fun | n => n⟩
theorem Tryz.lays150 : Go.Proofs.Lays.n150 Tryz.prog Tryz.lays150_ren := {
 mixed := by kernel_rfl
 f119 := Tryz.func200.trans (congrArg some (by kernel_rfl))
 f137 := Tryz.func137.trans (congrArg some (by kernel_rfl))
 f150 := Tryz.func148.trans (congrArg some (by kernel_rfl))
 f152 := Tryz.func187.trans (congrArg some (by kernel_rfl))
 f153 := Tryz.func168.trans (congrArg some (by kernel_rfl))
 f217 := Tryz.func158.trans (congrArg some (by kernel_rfl))
 f224 := Tryz.func177.trans (congrArg some (by kernel_rfl))
 f225 := Tryz.func176.trans (congrArg some (by kernel_rfl))
 f226 := Tryz.func188.trans (congrArg some (by kernel_rfl))
 f227 := Tryz.func189.trans (congrArg some (by kernel_rfl))
 f228 := Tryz.func190.trans (congrArg some (by kernel_rfl))
 f266 := Tryz.func179.trans (congrArg some (by kernel_rfl))
 t0 := Tryz.underlying0
 a0 := Tryz.isAgg0
 z0 := Tryz.sizeOf0
 v0 := Tryz.zeroValue0
 t3 := Tryz.underlying3
 a3 := Tryz.isAgg3
 z3 := Tryz.sizeOf3
 v3 := Tryz.zeroValue3
 t4 := Tryz.underlying4
 a4 := Tryz.isAgg4
 z4 := Tryz.sizeOf4
 v4 := Tryz.zeroValue4
 t5 := Tryz.underlying5
 a5 := Tryz.isAgg5
 z5 := Tryz.sizeOf5
 v5 := Tryz.zeroValue5
 t9 := Tryz.underlying9
 a9 := Tryz.isAgg9
 z9 := Tryz.sizeOf9
 v9 := Tryz.zeroValue9
 t21 := Tryz.underlying21
 a21 := Tryz.isAgg21
 z21 := Tryz.sizeOf21
 v21 := Tryz.zeroValue21
 t46 := Tryz.underlying156
 a46 := Tryz.isAgg156
 z46 := Tryz.sizeOf156
 v46 := Tryz.zeroValue156
 t116 := Tryz.underlying179
 a116 := Tryz.isAgg179
 z116 := Tryz.sizeOf179
 t117 := Tryz.underlying180
 a117 := Tryz.isAgg180
 z117 := Tryz.sizeOf180
 v117 := Tryz.zeroValue180
 t124 := Tryz.underlying195
 a124 := Tryz.isAgg195
 z124 := Tryz.sizeOf195
 v124 := Tryz.zeroValue195 }
open Go.RowKit Go.Lib in
theorem Tryz.strings_ContainsAny_laid (s chars : ByteArray) (w : World) (hs : s.size < 4294967281) (hcs : chars.size < 4294967281) (has : ∀ (j : Nat) b, s.data.toList[j]? = some b → b.toNat < 128) (hac : ∀ (j : Nat) b, chars.data.toList[j]? = some b → b.toNat < 128) :
  Calls Tryz.prog 148 #[.string s, .string chars] w fun e w' => e = .returned (.bool (Lib.containsAny s.data.toList chars.data.toList)) ∧ Below w.heap.size w w' := Any.strings_ContainsAny_laid Tryz.lays150 (by kernel_rfl) s chars w hs hcs has hac
def Tryz.lays193_ren : Go.Shelf.Ren := ⟨fun | 193 => 66 | n => n, fun | 31 => 58 | 9 => 9 | 4 => 4 | 3 => 3 | 0 => 0 | n => n, fun | n => n⟩
theorem Tryz.lays193 : Go.Proofs.Lays.n193 Tryz.prog Tryz.lays193_ren := {
 mixed := by kernel_rfl
 f193 := Tryz.func66.trans (congrArg some (by kernel_rfl))
 t0 := Tryz.underlying0
 a0 := Tryz.isAgg0
 z0 := Tryz.sizeOf0
 v0 := Tryz.zeroValue0
 t3 := Tryz.underlying3
 a3 := Tryz.isAgg3
 z3 := Tryz.sizeOf3
 v3 := Tryz.zeroValue3
 t4 := Tryz.underlying4
 a4 := Tryz.isAgg4
 z4 := Tryz.sizeOf4
 v4 := Tryz.zeroValue4
 t9 := Tryz.underlying9
 a9 := Tryz.isAgg9
 z9 := Tryz.sizeOf9
 v9 := Tryz.zeroValue9
 t31 := Tryz.underlying58
 a31 := Tryz.isAgg58
 z31 := Tryz.sizeOf58
 v31 := Tryz.zeroValue58 }
open Go.RowKit Go.Lib in
theorem Tryz.slices_Equal_string (b1 o1 n c b2 o2 m d : Nat) (xs ys : List ByteArray) (w : World) (hx : n ≤ xs.length) (hy : m ≤ ys.length) (hbig : n ≤ 9223372036854775807) (hbig2 : m ≤ 9223372036854775807) (hc1 : ∀ j, j < xs.length → w.cell? ⟨b1, o1 + j, none⟩ = some (.string (xs.getD j ByteArray.empty))) (hc2 : ∀ j, j < ys.length → w.cell? ⟨b2, o2 + j, none⟩ = some (.string (ys.getD j ByteArray.empty))) :
  Calls Tryz.prog 66 #[.slice (some ⟨b1, o1, none⟩) n c, .slice (some ⟨b2, o2, none⟩) m d] w fun e w' => e = .returned (.bool (decide (xs.take n = ys.take m))) ∧ ∃ q, w' = w.drewN q := Any.slices_Equal_string Tryz.lays193 b1 o1 n c b2 o2 m d xs ys w hx hy hbig hbig2 hc1 hc2
open Go.RowKit Go.Lib in
theorem Tryz.slices_Equal_string_empty (a1 a2 : Option Addr) (c m d : Nat) (w : World) (hbig2 : m ≤ 9223372036854775807) :
  Calls Tryz.prog 66 #[.slice a1 0 c, .slice a2 m d] w fun e w' => e = .returned (.bool (decide (m = 0))) ∧ w' = w := Any.slices_Equal_string_empty Tryz.lays193 a1 a2 c m d w hbig2
open Go.RowKit Go.Lib in
theorem Tryz.slices_Equal_string_lens (a1 a2 : Option Addr) (n c m d : Nat) (w : World) (hnm : n ≠ m) :
  Calls Tryz.prog 66 #[.slice a1 n c, .slice a2 m d] w fun e w' => e = .returned (.bool false) ∧ w' = w := Any.slices_Equal_string_lens Tryz.lays193 a1 a2 n c m d w hnm
end Go.Proofs
