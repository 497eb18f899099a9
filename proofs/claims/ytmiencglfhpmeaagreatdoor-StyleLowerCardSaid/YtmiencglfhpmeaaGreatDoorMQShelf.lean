/- The contracts of the library's functions at this translation, as the kit's printer writes them: those alone that are used. -/
import Derived.Shelf.Strings.Builder1
import Derived.Shelf.Strings.Trim
import Derived.Shelf.Small.Utf8
import Derived.Shelf.Small.Strs
import Derived.Shelf.Small.Wraps
import Derived.Shelf.Strconv.Atoi
import Derived.Shelf.Strconv.Itoa0
import Derived.Shelf.Strconv.Itoa1
import Derived.Shelf.LaysM
import Derived.Shelf.Strconv.Itoa2
import Derived.Shelf.Strconv.Itoa3
import Derived.Shelf.Strconv.AtoiErrFast
import Derived.Shelf.Strconv.ParseIntEmpty
import Derived.Shelf.Strconv.AtoiFail
import Derived.Shelf.Strconv.Clone
import Derived.Shelf.Strconv.SyntaxError
import Derived.Shelf.LaysC
import Derived.Shelf.Strconv.ToError
import Derived.Shelf.Strconv.Lower
import Derived.Shelf.Strconv.ParseUint10
import Derived.Shelf.Strconv.ParseUint10Empty
import Derived.Shelf.Strconv.ParseUint10Any
import Derived.Shelf.Strconv.ParseInt10
import Derived.Shelf.Strconv.AtoiLong
import Derived.Shelf.Strconv.AtoiInnerAll
import Derived.Shelf.Strconv.RangeError
import Derived.Shelf.Strconv.ToErrorRange
import Derived.Shelf.Strconv.AtoiAll
import Derived.Shelf.Strconv.ErrVarAll
import Derived.Shelf.Strconv.ParseUintEmpty
import Derived.Shelf.Strconv.ParseUint10b64
import Derived.Shelf.Strconv.ParseUint10b32
import Derived.Shelf.Strconv.ParseUint10b16
import Derived.Shelf.Strconv.ParseUint10b8
import Derived.Shelf.Strconv.ParseUint10At
import Derived.Shelf.Strconv.ParseInt10At64
import Derived.Shelf.Strconv.ParseInt10At32
import Derived.Shelf.Strconv.ParseInt10At16
import Derived.Shelf.Strconv.ParseInt10At8
import Derived.Shelf.Strconv.ParseInt10All
import Derived.Shelf.Strings.Search1
import Derived.Shelf.Strings.Search2
import Derived.Shelf.Strings.Cut
import Derived.Shelf.Strings.Shaped
import Derived.Shelf.GgClosure.StringsIndexFunc
import Derived.Ground.GgwProg
import Derived.Shelf.GgClosure.StringsIndexFuncTop
import Derived.Shelf.GgClosure.StringsRunes
import Derived.Shelf.Unicode.Decode
import Derived.Shelf.Strings.Runes
import Derived.Shelf.Strings.AsciiSet
import Derived.Shelf.Unicode.DecodeSlow
import Derived.Shelf.Unicode.DecodeAny
import Derived.Shelf.Unicode.DecodeLast
import Derived.Shelf.Strings.FuncGrows
import Derived.Shelf.Slices.Turned
import Derived.Test.YtmiencglfhpmeaaGreatDoorProg
set_option linter.unusedSimpArgs false
set_option linter.unusedVariables false
namespace Go.Proofs
open Go.Shelf
def Tryz.lays169_ren : Go.Shelf.Ren := ⟨fun | 169 => 50 | n => n, fun | 70 => 96 | 9 => 9 | 0 => 0 | 72 => 99 | 37 => 97 | 127 => 132 | 3 => 3 | 5 => 5 | n => n, fun | n => n⟩
theorem Tryz.lays169 : Go.Proofs.Lays.n169 Tryz.prog Tryz.lays169_ren := {
 mixed := by kernel_rfl
 f169 := Tryz.func50.trans (congrArg some (by kernel_rfl))
 t0 := Tryz.underlying0
 a0 := Tryz.isAgg0
 z0 := Tryz.sizeOf0
 v0 := Tryz.zeroValue0
 t3 := Tryz.underlying3
 a3 := Tryz.isAgg3
 z3 := Tryz.sizeOf3
 v3 := Tryz.zeroValue3
 t9 := Tryz.underlying9
 a9 := Tryz.isAgg9
 z9 := Tryz.sizeOf9
 v9 := Tryz.zeroValue9
 t37 := Tryz.underlying97
 a37 := Tryz.isAgg97
 z37 := Tryz.sizeOf97
 v37 := Tryz.zeroValue97
 t70 := Tryz.underlying96
 a70 := Tryz.isAgg96
 z70 := Tryz.sizeOf96
 v70 := Tryz.zeroValue96
 t72 := Tryz.underlying99
 a72 := Tryz.isAgg99
 z72 := Tryz.sizeOf99
 v72 := Tryz.zeroValue99
 t127 := Tryz.underlying132
 a127 := Tryz.isAgg132
 z127 := Tryz.sizeOf132
 v127 := Tryz.zeroValue132 }
theorem Tryz.Builder_Extra_169 : Builder.Extra Tryz.prog Tryz.lays169_ren := {
 sizeBuilder := by kernel_rfl
 liesBuilder := by kernel_rfl
 t5 := Tryz.underlying5
 a5 := Tryz.isAgg5
 z5 := Tryz.sizeOf5
 v5 := Tryz.zeroValue5
 infoByte := by kernel_rfl
 cellsByte := by kernel_rfl
 sizeByte := by kernel_rfl
 neB5 := by decide }
def Tryz.lays160_ren : Go.Shelf.Ren := ⟨fun | 160 => 187 | 232 => 195 | 231 => 194 | 227 => 196 | 234 => 198 | 233 => 197 | 236 => 200 | 235 => 199 | 228 => 201 | 271 => 204 | 151 => 203 | 197 => 202 | 120 => 207 | 152 => 206 | 260 => 205 | 137 => 185 | 119 => 208 | 224 => 175 | 225 => 174 | 217 => 173 | 266 => 190 | n => n, fun | 9 => 9 | 4 => 4 | 3 => 3 | 5 => 5 | 117 => 225 | 116 => 224 | 0 => 0 | 124 => 228 | 21 => 21 | 105 => 231 | 46 => 206 | 119 => 235 | 139 => 238 | 138 => 237 | n => n, fun | 3 => 6 | 4 => 7 | n => n⟩
theorem Tryz.lays160 : Go.Proofs.Lays.n160 Tryz.prog Tryz.lays160_ren := {
 mixed := by kernel_rfl
 f119 := Tryz.func208.trans (congrArg some (by kernel_rfl))
 f120 := Tryz.func207.trans (congrArg some (by kernel_rfl))
 f137 := Tryz.func185.trans (congrArg some (by kernel_rfl))
 f151 := Tryz.func203.trans (congrArg some (by kernel_rfl))
 f152 := Tryz.func206.trans (congrArg some (by kernel_rfl))
 f160 := Tryz.func187.trans (congrArg some (by kernel_rfl))
 f197 := Tryz.func202.trans (congrArg some (by kernel_rfl))
 f217 := Tryz.func173.trans (congrArg some (by kernel_rfl))
 f224 := Tryz.func175.trans (congrArg some (by kernel_rfl))
 f225 := Tryz.func174.trans (congrArg some (by kernel_rfl))
 f227 := Tryz.func196.trans (congrArg some (by kernel_rfl))
 f228 := Tryz.func201.trans (congrArg some (by kernel_rfl))
 f231 := Tryz.func194.trans (congrArg some (by kernel_rfl))
 f232 := Tryz.func195.trans (congrArg some (by kernel_rfl))
 f233 := Tryz.func197.trans (congrArg some (by kernel_rfl))
 f234 := Tryz.func198.trans (congrArg some (by kernel_rfl))
 f235 := Tryz.func199.trans (congrArg some (by kernel_rfl))
 f236 := Tryz.func200.trans (congrArg some (by kernel_rfl))
 f260 := Tryz.func205.trans (congrArg some (by kernel_rfl))
 f266 := Tryz.func190.trans (congrArg some (by kernel_rfl))
 f271 := Tryz.func204.trans (congrArg some (by kernel_rfl))
 t0 := Tryz.underlying0
 a0 := Tryz.isAgg0
 z0 := Tryz.sizeOf0
 v0 := Tryz.zeroValue0
 t3 := Tryz.underlying3
 a3 := Tryz.isAgg3
 z3 := Tryz.sizeOf3
 v3 := Tryz.zeroValue3
 t4 := Tryz.underlying4
 a4 := Tryz.isAgg4
 z4 := Tryz.sizeOf4
 v4 := Tryz.zeroValue4
 t5 := Tryz.underlying5
 a5 := Tryz.isAgg5
 z5 := Tryz.sizeOf5
 v5 := Tryz.zeroValue5
 t9 := Tryz.underlying9
 a9 := Tryz.isAgg9
 z9 := Tryz.sizeOf9
 v9 := Tryz.zeroValue9
 t21 := Tryz.underlying21
 a21 := Tryz.isAgg21
 z21 := Tryz.sizeOf21
 v21 := Tryz.zeroValue21
 t46 := Tryz.underlying206
 a46 := Tryz.isAgg206
 z46 := Tryz.sizeOf206
 v46 := Tryz.zeroValue206
 t105 := Tryz.underlying231
 a105 := Tryz.isAgg231
 z105 := Tryz.sizeOf231
 v105 := Tryz.zeroValue231
 t116 := Tryz.underlying224
 a116 := Tryz.isAgg224
 z116 := Tryz.sizeOf224
 t117 := Tryz.underlying225
 a117 := Tryz.isAgg225
 z117 := Tryz.sizeOf225
 v117 := Tryz.zeroValue225
 t119 := Tryz.underlying235
 a119 := Tryz.isAgg235
 z119 := Tryz.sizeOf235
 t124 := Tryz.underlying228
 a124 := Tryz.isAgg228
 z124 := Tryz.sizeOf228
 v124 := Tryz.zeroValue228
 t138 := Tryz.underlying237
 a138 := Tryz.isAgg237
 z138 := Tryz.sizeOf237
 v138 := Tryz.zeroValue237
 t139 := Tryz.underlying238
 a139 := Tryz.isAgg238
 z139 := Tryz.sizeOf238
 v139 := Tryz.zeroValue238
 g3 := by kernel_rfl
 g4 := by kernel_rfl }
open Go.RowKit in
theorem Tryz.strings_Trim_one (s : ByteArray) (c : UInt8) (hc : c.toNat < 128) (w : World) (hs : s.size ≤ 9223372036854775807) :
  Calls Tryz.prog 187 #[.string s, .string ⟨#[c]⟩] w fun e w' => e = .returned (.string ⟨(Lib.trimB s.data.toList c).toArray⟩) ∧ (w' = w ∨ w' = w.drew) := Any.strings_Trim_one Tryz.lays160 s c hc w hs
def Tryz.lays137_ren : Go.Shelf.Ren := ⟨fun | 137 => 185 | 217 => 173 | 266 => 190 | n => n, fun | 9 => 9 | 5 => 5 | 3 => 3 | n => n, fun | n => n⟩
theorem Tryz.lays137 : Go.Proofs.Lays.n137 Tryz.prog Tryz.lays137_ren := {
 mixed := by kernel_rfl
 f137 := Tryz.func185.trans (congrArg some (by kernel_rfl))
 f217 := Tryz.func173.trans (congrArg some (by kernel_rfl))
 f266 := Tryz.func190.trans (congrArg some (by kernel_rfl))
 t3 := Tryz.underlying3
 a3 := Tryz.isAgg3
 z3 := Tryz.sizeOf3
 v3 := Tryz.zeroValue3
 t5 := Tryz.underlying5
 a5 := Tryz.isAgg5
 z5 := Tryz.sizeOf5
 v5 := Tryz.zeroValue5
 t9 := Tryz.underlying9
 a9 := Tryz.isAgg9
 z9 := Tryz.sizeOf9
 v9 := Tryz.zeroValue9 }
open Go.RowKit in
theorem Tryz.strings_IndexByte (s : ByteArray) (c : Int) (w : World) :
  Calls Tryz.prog 185 #[.string s, .int .u8 c] w fun e w' => e = .returned (.int .i64 (Lib.indexByte s.data.toList c.toNat.toUInt8)) ∧ w' = w := Any.strings_IndexByte Tryz.lays137 s c w
def Tryz.lays121_ren : Go.Shelf.Ren := ⟨fun | 121 => 106 | 214 => 129 | n => n, fun | 4 => 4 | 9 => 9 | n => n, fun | n => n⟩
theorem Tryz.lays121 : Go.Proofs.Lays.n121 Tryz.prog Tryz.lays121_ren := {
 mixed := by kernel_rfl
 f121 := Tryz.func106.trans (congrArg some (by kernel_rfl))
 f214 := Tryz.func129.trans (congrArg some (by kernel_rfl))
 t4 := Tryz.underlying4
 a4 := Tryz.isAgg4
 z4 := Tryz.sizeOf4
 v4 := Tryz.zeroValue4
 t9 := Tryz.underlying9
 a9 := Tryz.isAgg9
 z9 := Tryz.sizeOf9
 v9 := Tryz.zeroValue9 }
open Go.RowKit in
theorem Tryz.strconv_FormatBool (b : Bool) (w : World) :
  Calls Tryz.prog 106 #[.bool b] w fun e w' => e = .returned (.string ⟨(Lib.formatBool b).toArray⟩) ∧ w' = w := Any.strconv_FormatBool Tryz.lays121 b w
def Tryz.laysM171_ren : Go.Shelf.Ren := ⟨fun | 171 => 84 | 243 => 105 | 246 => 128 | 283 => 151 | 284 => 152 | 285 => 153 | 286 => 154 | 129 => 169 | 317 => 168 | 318 => 170 | 319 => 171 | 320 => 172 | 337 => 188 | 338 => 189 | n => n, fun | 3 => 3 | 9 => 9 | 2 => 2 | 4 => 4 | 171 => 187 | 0 => 0 | 53 => 188 | 37 => 97 | 5 => 5 | 173 => 191 | 212 => 203 | 51 => 204 | 20 => 20 | 213 => 205 | 46 => 206 | 232 => 229 | 233 => 230 | n => n, fun | 17 => 0 | 18 => 4 | 19 => 5 | n => n⟩
theorem Tryz.laysM171 : Go.Proofs.LaysM.n171 Tryz.prog Tryz.laysM171_ren := {
 mixed := by kernel_rfl
 f129 := Tryz.func169.trans (congrArg some (by kernel_rfl))
 f171 := Tryz.func84.trans (congrArg some (by kernel_rfl))
 f243 := Tryz.func105.trans (congrArg some (by kernel_rfl))
 f246 := Tryz.func128.trans (congrArg some (by kernel_rfl))
 f283 := Tryz.func151.trans (congrArg some (by kernel_rfl))
 f284 := Tryz.func152.trans (congrArg some (by kernel_rfl))
 f285 := Tryz.func153.trans (congrArg some (by kernel_rfl))
 f286 := Tryz.func154.trans (congrArg some (by kernel_rfl))
 f317 := Tryz.func168.trans (congrArg some (by kernel_rfl))
 f318 := Tryz.func170.trans (congrArg some (by kernel_rfl))
 f319 := Tryz.func171.trans (congrArg some (by kernel_rfl))
 f320 := Tryz.func172.trans (congrArg some (by kernel_rfl))
 f337 := Tryz.func188.trans (congrArg some (by kernel_rfl))
 f338 := Tryz.func189.trans (congrArg some (by kernel_rfl))
 t0 := Tryz.underlying0
 a0 := Tryz.isAgg0
 z0 := Tryz.sizeOf0
 v0 := Tryz.zeroValue0
 t2 := Tryz.underlying2
 a2 := Tryz.isAgg2
 z2 := Tryz.sizeOf2
 v2 := Tryz.zeroValue2
 t3 := Tryz.underlying3
 a3 := Tryz.isAgg3
 z3 := Tryz.sizeOf3
 v3 := Tryz.zeroValue3
 t4 := Tryz.underlying4
 a4 := Tryz.isAgg4
 z4 := Tryz.sizeOf4
 v4 := Tryz.zeroValue4
 t5 := Tryz.underlying5
 a5 := Tryz.isAgg5
 z5 := Tryz.sizeOf5
 v5 := Tryz.zeroValue5
 t9 := Tryz.underlying9
 a9 := Tryz.isAgg9
 z9 := Tryz.sizeOf9
 v9 := Tryz.zeroValue9
 t20 := Tryz.underlying20
 a20 := Tryz.isAgg20
 z20 := Tryz.sizeOf20
 v20 := Tryz.zeroValue20
 t37 := Tryz.underlying97
 a37 := Tryz.isAgg97
 z37 := Tryz.sizeOf97
 v37 := Tryz.zeroValue97
 t46 := Tryz.underlying206
 a46 := Tryz.isAgg206
 z46 := Tryz.sizeOf206
 v46 := Tryz.zeroValue206
 t51 := Tryz.underlying204
 a51 := Tryz.isAgg204
 z51 := Tryz.sizeOf204
 v51 := Tryz.zeroValue204
 t53 := Tryz.underlying188
 a53 := Tryz.isAgg188
 z53 := Tryz.sizeOf188
 v53 := Tryz.zeroValue188
 t171 := Tryz.underlying187
 a171 := Tryz.isAgg187
 z171 := Tryz.sizeOf187
 v171 := Tryz.zeroValue187
 t173 := Tryz.underlying191
 a173 := Tryz.isAgg191
 z173 := Tryz.sizeOf191
 v173 := Tryz.zeroValue191
 t212 := Tryz.underlying203
 a212 := Tryz.isAgg203
 z212 := Tryz.sizeOf203
 v212 := Tryz.zeroValue203
 t213 := Tryz.underlying205
 a213 := Tryz.isAgg205
 z213 := Tryz.sizeOf205
 t232 := Tryz.underlying229
 a232 := Tryz.isAgg229
 z232 := Tryz.sizeOf229
 v232 := Tryz.zeroValue229
 t233 := Tryz.underlying230
 a233 := Tryz.isAgg230
 z233 := Tryz.sizeOf230
 v233 := Tryz.zeroValue230
 g17 := by kernel_rfl
 g18 := by kernel_rfl
 g19 := by kernel_rfl
 i0 := by kernel_rfl
 i2 := by kernel_rfl
 i3 := by kernel_rfl
 i4 := by kernel_rfl
 i5 := by kernel_rfl
 i9 := by kernel_rfl
 i20 := by kernel_rfl
 i37 := by kernel_rfl
 i46 := by kernel_rfl
 i51 := by kernel_rfl
 i53 := by kernel_rfl
 i171 := by kernel_rfl
 i173 := by kernel_rfl
 i212 := by kernel_rfl
 i232 := by kernel_rfl
 i233 := by kernel_rfl
 m17 := by kernel_rfl
 m18 := by kernel_rfl
 m19 := by kernel_rfl }
open Go.RowKit Go.Sort Go.Lib in
theorem Tryz.strconv_Itoa (n : Int) (h0 : -9223372036854775808 ≤ n) (h1 : n ≤ 9223372036854775807) (w : World) (htab : Lib.TabIs Tryz.prog w "internal/strconv.uint64pow10" .u64 Lib.pow10Tab) :
  Calls Tryz.prog 84 #[.int .i64 n] w fun e w' => e = .returned (.string ⟨(Lib.itoa n).toArray⟩) ∧ ∃ k os, w' = grow (w.drewN k) os := Any.strconv_Itoa Tryz.laysM171 n h0 h1 w htab
def Tryz.laysC172_ren : Go.Shelf.Ren := ⟨fun | 172 => 111 | 244 => 135 | 245 => 136 | 247 => 156 | 279 => 157 | 280 => 158 | 281 => 159 | 282 => 160 | 287 => 177 | 316 => 178 | 171 => 84 | 205 => 179 | 321 => 192 | 322 => 193 | 243 => 105 | 246 => 128 | 283 => 151 | 284 => 152 | 285 => 153 | 286 => 154 | 129 => 169 | 317 => 168 | 318 => 170 | 319 => 171 | 320 => 172 | 337 => 188 | 338 => 189 | n => n, fun | 9 => 9 | 3 => 3 | 75 => 101 | 76 => 102 | 4 => 4 | 5 => 5 | 167 => 194 | 37 => 97 | 0 => 0 | 85 => 195 | 2 => 2 | 168 => 197 | 53 => 188 | 175 => 209 | 46 => 206 | 210 => 212 | 127 => 132 | 145 => 221 | 143 => 219 | 21 => 21 | 171 => 187 | 173 => 191 | 212 => 203 | 51 => 204 | 20 => 20 | 213 => 205 | 232 => 229 | 233 => 230 | 80 => 107 | n => n, fun | 15 => 2 | 16 => 3 | 17 => 0 | 18 => 4 | 19 => 5 | n => n⟩
theorem Tryz.laysC172 : Go.Proofs.LaysC.n172 Tryz.prog Tryz.laysC172_ren := {
 mixed := by kernel_rfl
 f129 := Tryz.func169.trans (congrArg some (by kernel_rfl))
 f171 := Tryz.func84.trans (congrArg some (by kernel_rfl))
 f172 := Tryz.func111.trans (congrArg some (by kernel_rfl))
 f205 := Tryz.func179.trans (congrArg some (by kernel_rfl))
 f243 := Tryz.func105.trans (congrArg some (by kernel_rfl))
 f244 := Tryz.func135.trans (congrArg some (by kernel_rfl))
 f245 := Tryz.func136.trans (congrArg some (by kernel_rfl))
 f246 := Tryz.func128.trans (congrArg some (by kernel_rfl))
 f247 := Tryz.func156.trans (congrArg some (by kernel_rfl))
 f279 := Tryz.func157.trans (congrArg some (by kernel_rfl))
 f280 := Tryz.func158.trans (congrArg some (by kernel_rfl))
 f281 := Tryz.func159.trans (congrArg some (by kernel_rfl))
 f282 := Tryz.func160.trans (congrArg some (by kernel_rfl))
 f283 := Tryz.func151.trans (congrArg some (by kernel_rfl))
 f284 := Tryz.func152.trans (congrArg some (by kernel_rfl))
 f285 := Tryz.func153.trans (congrArg some (by kernel_rfl))
 f286 := Tryz.func154.trans (congrArg some (by kernel_rfl))
 f287 := Tryz.func177.trans (congrArg some (by kernel_rfl))
 f316 := Tryz.func178.trans (congrArg some (by kernel_rfl))
 f317 := Tryz.func168.trans (congrArg some (by kernel_rfl))
 f318 := Tryz.func170.trans (congrArg some (by kernel_rfl))
 f319 := Tryz.func171.trans (congrArg some (by kernel_rfl))
 f320 := Tryz.func172.trans (congrArg some (by kernel_rfl))
 f321 := Tryz.func192.trans (congrArg some (by kernel_rfl))
 f322 := Tryz.func193.trans (congrArg some (by kernel_rfl))
 f337 := Tryz.func188.trans (congrArg some (by kernel_rfl))
 f338 := Tryz.func189.trans (congrArg some (by kernel_rfl))
 t0 := Tryz.underlying0
 a0 := Tryz.isAgg0
 z0 := Tryz.sizeOf0
 v0 := Tryz.zeroValue0
 t2 := Tryz.underlying2
 a2 := Tryz.isAgg2
 z2 := Tryz.sizeOf2
 v2 := Tryz.zeroValue2
 t3 := Tryz.underlying3
 a3 := Tryz.isAgg3
 z3 := Tryz.sizeOf3
 v3 := Tryz.zeroValue3
 t4 := Tryz.underlying4
 a4 := Tryz.isAgg4
 z4 := Tryz.sizeOf4
 v4 := Tryz.zeroValue4
 t5 := Tryz.underlying5
 a5 := Tryz.isAgg5
 z5 := Tryz.sizeOf5
 v5 := Tryz.zeroValue5
 t9 := Tryz.underlying9
 a9 := Tryz.isAgg9
 z9 := Tryz.sizeOf9
 v9 := Tryz.zeroValue9
 t20 := Tryz.underlying20
 a20 := Tryz.isAgg20
 z20 := Tryz.sizeOf20
 v20 := Tryz.zeroValue20
 t21 := Tryz.underlying21
 a21 := Tryz.isAgg21
 z21 := Tryz.sizeOf21
 v21 := Tryz.zeroValue21
 t37 := Tryz.underlying97
 a37 := Tryz.isAgg97
 z37 := Tryz.sizeOf97
 v37 := Tryz.zeroValue97
 t46 := Tryz.underlying206
 a46 := Tryz.isAgg206
 z46 := Tryz.sizeOf206
 v46 := Tryz.zeroValue206
 t51 := Tryz.underlying204
 a51 := Tryz.isAgg204
 z51 := Tryz.sizeOf204
 v51 := Tryz.zeroValue204
 t53 := Tryz.underlying188
 a53 := Tryz.isAgg188
 z53 := Tryz.sizeOf188
 v53 := Tryz.zeroValue188
 t75 := Tryz.underlying101
 a75 := Tryz.isAgg101
 z75 := Tryz.sizeOf101
 v75 := Tryz.zeroValue101
 t76 := Tryz.underlying102
 a76 := Tryz.isAgg102
 z76 := Tryz.sizeOf102
 v76 := Tryz.zeroValue102
 t85 := Tryz.underlying195
 a85 := Tryz.isAgg195
 z85 := Tryz.sizeOf195
 v85 := Tryz.zeroValue195
 t127 := Tryz.underlying132
 a127 := Tryz.isAgg132
 z127 := Tryz.sizeOf132
 v127 := Tryz.zeroValue132
 t143 := Tryz.underlying219
 a143 := Tryz.isAgg219
 z143 := Tryz.sizeOf219
 v143 := Tryz.zeroValue219
 t145 := Tryz.underlying221
 a145 := Tryz.isAgg221
 z145 := Tryz.sizeOf221
 v145 := Tryz.zeroValue221
 t167 := Tryz.underlying194
 a167 := Tryz.isAgg194
 z167 := Tryz.sizeOf194
 v167 := Tryz.zeroValue194
 t168 := Tryz.underlying197
 a168 := Tryz.isAgg197
 z168 := Tryz.sizeOf197
 v168 := Tryz.zeroValue197
 t171 := Tryz.underlying187
 a171 := Tryz.isAgg187
 z171 := Tryz.sizeOf187
 v171 := Tryz.zeroValue187
 t173 := Tryz.underlying191
 a173 := Tryz.isAgg191
 z173 := Tryz.sizeOf191
 v173 := Tryz.zeroValue191
 t175 := Tryz.underlying209
 a175 := Tryz.isAgg209
 z175 := Tryz.sizeOf209
 v175 := Tryz.zeroValue209
 t210 := Tryz.underlying212
 a210 := Tryz.isAgg212
 z210 := Tryz.sizeOf212
 v210 := Tryz.zeroValue212
 t212 := Tryz.underlying203
 a212 := Tryz.isAgg203
 z212 := Tryz.sizeOf203
 v212 := Tryz.zeroValue203
 t213 := Tryz.underlying205
 a213 := Tryz.isAgg205
 z213 := Tryz.sizeOf205
 t232 := Tryz.underlying229
 a232 := Tryz.isAgg229
 z232 := Tryz.sizeOf229
 v232 := Tryz.zeroValue229
 t233 := Tryz.underlying230
 a233 := Tryz.isAgg230
 z233 := Tryz.sizeOf230
 v233 := Tryz.zeroValue230
 g15 := by kernel_rfl
 g16 := by kernel_rfl
 g17 := by kernel_rfl
 g18 := by kernel_rfl
 g19 := by kernel_rfl
 t80 := Tryz.underlying107
 a80 := Tryz.isAgg107
 z80 := Tryz.sizeOf107
 v80 := Tryz.zeroValue107
 i0 := by kernel_rfl
 i2 := by kernel_rfl
 i3 := by kernel_rfl
 i4 := by kernel_rfl
 i5 := by kernel_rfl
 i9 := by kernel_rfl
 i20 := by kernel_rfl
 i21 := by kernel_rfl
 i37 := by kernel_rfl
 i46 := by kernel_rfl
 i51 := by kernel_rfl
 i53 := by kernel_rfl
 i75 := by kernel_rfl
 i76 := by kernel_rfl
 i80 := by kernel_rfl
 i85 := by kernel_rfl
 i127 := by kernel_rfl
 i143 := by kernel_rfl
 i145 := by kernel_rfl
 i167 := by kernel_rfl
 i168 := by kernel_rfl
 i171 := by kernel_rfl
 i173 := by kernel_rfl
 i175 := by kernel_rfl
 i210 := by kernel_rfl
 i212 := by kernel_rfl
 i232 := by kernel_rfl
 i233 := by kernel_rfl
 m15 := by kernel_rfl
 m16 := by kernel_rfl
 m17 := by kernel_rfl
 m18 := by kernel_rfl
 m19 := by kernel_rfl
 c0 := by kernel_rfl
 c2 := by kernel_rfl
 c3 := by kernel_rfl
 c4 := by kernel_rfl
 c5 := by kernel_rfl
 c9 := by kernel_rfl
 c20 := by kernel_rfl
 c21 := by kernel_rfl
 c37 := by kernel_rfl
 c46 := by kernel_rfl
 c51 := by kernel_rfl
 c53 := by kernel_rfl
 c75 := by kernel_rfl
 c76 := by kernel_rfl
 c80 := by kernel_rfl
 c85 := by kernel_rfl
 c127 := by kernel_rfl
 c143 := by kernel_rfl
 c145 := by kernel_rfl
 c167 := by kernel_rfl
 c168 := by kernel_rfl
 c171 := by kernel_rfl
 c173 := by kernel_rfl
 c175 := by kernel_rfl
 c210 := by kernel_rfl
 c212 := by kernel_rfl
 c213 := by kernel_rfl
 c232 := by kernel_rfl
 c233 := by kernel_rfl }
open Go.RowKit in
theorem Tryz.strconv_Atoi_ok (s : ByteArray) (hmax : s.size ≤ 9223372036854775806) (v : Int) (h : Lib.atoiAll s.data.toList = .ok v) (w : World) :
  Calls Tryz.prog 111 #[.string s] w fun e w' => e = .returned (.tuple #[.int .i64 v, .nilIface]) ∧ (w' = w ∨ ∃ t, w' = Lib.bytesWorld w 5 t) := Any.strconv_Atoi_ok Tryz.laysC172 s hmax v h w
open Go.RowKit in
theorem Tryz.strconv_Atoi_range (s : ByteArray) (hlim : s.size ≤ 281474976710656) (h : Lib.atoiAll s.data.toList = .range) (ev : Value) (w : World) (hv : w.cell? ⟨3, 0, none⟩ = some ev) (hev : ev = .nilIface ∨ ∃ te pe, ev = .iface te pe) :
  Calls Tryz.prog 111 #[.string s] w fun e w' => ∃ N, e = .returned (.tuple #[.int .i64 (Lib.atoiSat s.data.toList), .iface 197 (.pointer (some ⟨N, 0, none⟩))]) ∧ w.heap.size ≤ N ∧ w'.heap[N]? = some (.cells #[.string ⟨#[65, 116, 111, 105]⟩, .string s, ev] 212 (0, 0)) ∧ Below w.heap.size w w' := Any.strconv_Atoi_range Tryz.laysC172 s hlim h ev w hv hev
def Tryz.lays145_ren : Go.Shelf.Ren := ⟨fun | 145 => 110 | 220 => 134 | 219 => 155 | 217 => 173 | 225 => 174 | 224 => 175 | 267 => 176 | 266 => 190 | 314 => 191 | n => n, fun | 9 => 9 | 4 => 4 | 59 => 154 | 3 => 3 | 5 => 5 | 46 => 206 | 146 => 217 | 51 => 204 | n => n, fun | 1 => 1 | n => n⟩
theorem Tryz.lays145 : Go.Proofs.Lays.n145 Tryz.prog Tryz.lays145_ren := {
 mixed := by kernel_rfl
 f145 := Tryz.func110.trans (congrArg some (by kernel_rfl))
 f217 := Tryz.func173.trans (congrArg some (by kernel_rfl))
 f219 := Tryz.func155.trans (congrArg some (by kernel_rfl))
 f220 := Tryz.func134.trans (congrArg some (by kernel_rfl))
 f224 := Tryz.func175.trans (congrArg some (by kernel_rfl))
 f225 := Tryz.func174.trans (congrArg some (by kernel_rfl))
 f266 := Tryz.func190.trans (congrArg some (by kernel_rfl))
 f267 := Tryz.func176.trans (congrArg some (by kernel_rfl))
 f314 := Tryz.func191.trans (congrArg some (by kernel_rfl))
 t3 := Tryz.underlying3
 a3 := Tryz.isAgg3
 z3 := Tryz.sizeOf3
 v3 := Tryz.zeroValue3
 t4 := Tryz.underlying4
 a4 := Tryz.isAgg4
 z4 := Tryz.sizeOf4
 v4 := Tryz.zeroValue4
 t5 := Tryz.underlying5
 a5 := Tryz.isAgg5
 z5 := Tryz.sizeOf5
 v5 := Tryz.zeroValue5
 t9 := Tryz.underlying9
 a9 := Tryz.isAgg9
 z9 := Tryz.sizeOf9
 v9 := Tryz.zeroValue9
 t46 := Tryz.underlying206
 a46 := Tryz.isAgg206
 z46 := Tryz.sizeOf206
 v46 := Tryz.zeroValue206
 t51 := Tryz.underlying204
 a51 := Tryz.isAgg204
 z51 := Tryz.sizeOf204
 v51 := Tryz.zeroValue204
 t59 := Tryz.underlying154
 a59 := Tryz.isAgg154
 z59 := Tryz.sizeOf154
 v59 := Tryz.zeroValue154
 t146 := Tryz.underlying217
 a146 := Tryz.isAgg217
 z146 := Tryz.sizeOf217
 v146 := Tryz.zeroValue217
 g1 := by kernel_rfl }
open Go.RowKit Go.Lib in
theorem Tryz.strings_Cut (s sep : ByteArray) (m : Int) (w : World) (hs : s.size < 4294967281) (hm : w.cell? ⟨1, 0, none⟩ = some (.int .i64 m)) :
  Calls Tryz.prog 110 #[.string s, .string sep] w fun e w' => e = .returned (.tuple #[.string ⟨(Lib.cut s.data.toList sep.data.toList).1.toArray⟩, .string ⟨(Lib.cut s.data.toList sep.data.toList).2.1.toArray⟩, .bool (Lib.cut s.data.toList sep.data.toList).2.2]) ∧ ∃ n, w' = w.drewN n := Any.strings_Cut Tryz.lays145 s sep m w hs hm
def Tryz.laysGw15_ren : Go.Shelf.Ren := ⟨fun | 15 => 119 | 20 => 146 | n => n, fun | 9 => 9 | 23 => 167 | 3 => 3 | 4 => 4 | 0 => 0 | 21 => 21 | n => n, fun | n => n⟩
theorem Tryz.laysGw15 : Go.Proofs.LaysGw.n15 Tryz.prog Tryz.laysGw15_ren := {
 mixed := by kernel_rfl
 f15 := Tryz.func119.trans (congrArg some (by kernel_rfl))
 f20 := Tryz.func146.trans (congrArg some (by kernel_rfl))
 t0 := Tryz.underlying0
 a0 := Tryz.isAgg0
 z0 := Tryz.sizeOf0
 v0 := Tryz.zeroValue0
 i0 := by kernel_rfl
 t3 := Tryz.underlying3
 a3 := Tryz.isAgg3
 z3 := Tryz.sizeOf3
 v3 := Tryz.zeroValue3
 i3 := by kernel_rfl
 t4 := Tryz.underlying4
 a4 := Tryz.isAgg4
 z4 := Tryz.sizeOf4
 v4 := Tryz.zeroValue4
 i4 := by kernel_rfl
 t9 := Tryz.underlying9
 a9 := Tryz.isAgg9
 z9 := Tryz.sizeOf9
 v9 := Tryz.zeroValue9
 i9 := by kernel_rfl
 t21 := Tryz.underlying21
 a21 := Tryz.isAgg21
 z21 := Tryz.sizeOf21
 v21 := Tryz.zeroValue21
 i21 := by kernel_rfl
 t23 := Tryz.underlying167
 a23 := Tryz.isAgg167
 z23 := Tryz.sizeOf167
 v23 := Tryz.zeroValue167
 i23 := by kernel_rfl }
open Go.RowKit Go.Lib in
theorem Tryz.strings_IndexFunc (g : Nat) (lb : Array Value) (eg : ∀ args w, (callFunc g args).run Tryz.prog w = .ok (.enter g args) w) (p : Nat → Bool) (s : ByteArray) (w : World) (hp : PredAt Tryz.prog g lb encR p w) :
  Calls Tryz.prog 119 #[.string s, .func (.func g) #[] lb] w fun e w' => e = .returned (.int .i64 (Lib.idxFunc p true s)) ∧ Below w.heap.size w w' := Any.strings_IndexFunc Tryz.laysGw15 g lb eg p s w hp
end Go.Proofs
