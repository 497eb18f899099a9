/- The contracts of the library's functions at this translation, as the kit's printer writes them: those alone that are used. -/
import Derived.Shelf.SlSortCmp.SmallK
import Derived.Shelf.Strings.Builder1
import Derived.Shelf.Strings.Builder2
import Derived.Shelf.Strings.OnBuilder
import Derived.Shelf.Small.Bits
import Derived.Shelf.Small.Wraps
import Derived.Shelf.Strconv.Atoi
import Derived.Shelf.Strconv.Itoa0
import Derived.Shelf.Strconv.Itoa1
import Derived.Shelf.LaysM
import Derived.Shelf.Strconv.Itoa2
import Derived.Shelf.Strconv.Itoa3
import Derived.Shelf.Strconv.AtoiErrFast
import Derived.Shelf.Strconv.ParseIntEmpty
import Derived.Shelf.Strconv.AtoiFail
import Derived.Shelf.Strconv.Clone
import Derived.Shelf.Strconv.SyntaxError
import Derived.Shelf.LaysC
import Derived.Shelf.Strconv.ToError
import Derived.Shelf.Strconv.Lower
import Derived.Shelf.Strconv.ParseUint10
import Derived.Shelf.Strconv.ParseUint10Empty
import Derived.Shelf.Strconv.ParseUint10Any
import Derived.Shelf.Strconv.ParseInt10
import Derived.Shelf.Strconv.AtoiLong
import Derived.Shelf.Strconv.AtoiInnerAll
import Derived.Shelf.Strconv.RangeError
import Derived.Shelf.Strconv.ToErrorRange
import Derived.Shelf.Strconv.AtoiAll
import Derived.Shelf.Strconv.ErrVarAll
import Derived.Shelf.Strings.Search1
import Derived.Shelf.Strings.Search2
import Derived.Shelf.Strings.Search3
import Derived.Shelf.Strings.Count
import Derived.Shelf.Strings.Shaped
import Derived.Shelf.Sort.Plain
import Derived.Shelf.Strings.Split
import Derived.Shelf.Bits.Mul64
import Derived.Shelf.Unicode.DecodeSlow
import Derived.Ground.Names2Prog
import Derived.Shelf.Slices.Clone
import Derived.Shelf.Slices.CompactI
import Derived.Shelf.Slices.SearchI
import Derived.Shelf.Slices.Cells
import Derived.Shelf.Slices.In.SortNone
import Derived.Ground.SlgnProg
import Derived.Shelf.SlicesE.Compact
import Derived.Shelf.SlicesE.Clone
import Derived.Ground.SlgfProg
import Derived.Shelf.SlicesE.IndexFunc
import Derived.Shelf.SlicesE.DeleteFunc
import Derived.Ground.SlsfProg
import Derived.Shelf.SlSortCmp.Insertion
import Derived.Shelf.SlSortCmp.Insertion1
import Derived.Shelf.SlSortCmp.ReverseRange1
import Derived.Test.YtompfgofaplffaaGreatDoorProg
import Derived.Lib.Hide
import Derived.Test.YtompfgofaplffaaGreatDoorQVc
import Derived.Test.YtompfgofaplffaaGreatDoorQVm
import Derived.RegionTactic
import Derived.Deep.QuietTactic
import Derived.BigQuiet
set_option linter.unusedSimpArgs false
set_option linter.unusedVariables false
namespace Go.Proofs
open Go.Shelf
def Tryz.lays156_ren : Go.Shelf.Ren := ⟨fun | 156 => 19 | 165 => 57 | 166 => 58 | 169 => 59 | 240 => 112 | 241 => 113 | 276 => 163 | 277 => 164 | n => n, fun | 31 => 31 | 9 => 9 | 3 => 3 | 4 => 4 | 0 => 0 | 20 => 20 | 72 => 93 | 76 => 67 | 70 => 90 | 37 => 91 | 75 => 66 | 127 => 157 | 164 => 216 | 5 => 5 | 80 => 95 | n => n, fun | n => n⟩
theorem Tryz.lays156 : Go.Proofs.Lays.n156 Tryz.prog Tryz.lays156_ren := {
  mixed := by kernel_rfl
  f156 := Tryz.func19.trans (congrArg some (by kernel_rfl))
  f165 := Tryz.func57.trans (congrArg some (by kernel_rfl))
  f166 := Tryz.func58.trans (congrArg some (by kernel_rfl))
  f169 := Tryz.func59.trans (congrArg some (by kernel_rfl))
  f240 := Tryz.func112.trans (congrArg some (by kernel_rfl))
  f241 := Tryz.func113.trans (congrArg some (by kernel_rfl))
  f276 := Tryz.func163.trans (congrArg some (by kernel_rfl))
  f277 := Tryz.func164.trans (congrArg some (by kernel_rfl))
  t0 := Tryz.underlying0
  a0 := Tryz.isAgg0
  z0 := Tryz.sizeOf0
  v0 := Tryz.zeroValue0
  t3 := Tryz.underlying3
  a3 := Tryz.isAgg3
  z3 := Tryz.sizeOf3
  v3 := Tryz.zeroValue3
  t4 := Tryz.underlying4
  a4 := Tryz.isAgg4
  z4 := Tryz.sizeOf4
  v4 := Tryz.zeroValue4
  t9 := Tryz.underlying9
  a9 := Tryz.isAgg9
  z9 := Tryz.sizeOf9
  v9 := Tryz.zeroValue9
  t20 := Tryz.underlying20
  a20 := Tryz.isAgg20
  z20 := Tryz.sizeOf20
  v20 := Tryz.zeroValue20
  t31 := Tryz.underlying31
  a31 := Tryz.isAgg31
  z31 := Tryz.sizeOf31
  v31 := Tryz.zeroValue31
  t37 := Tryz.underlying91
  a37 := Tryz.isAgg91
  z37 := Tryz.sizeOf91
  v37 := Tryz.zeroValue91
  t70 := Tryz.underlying90
  a70 := Tryz.isAgg90
  z70 := Tryz.sizeOf90
  v70 := Tryz.zeroValue90
  t72 := Tryz.underlying93
  a72 := Tryz.isAgg93
  z72 := Tryz.sizeOf93
  v72 := Tryz.zeroValue93
  t75 := Tryz.underlying66
  a75 := Tryz.isAgg66
  z75 := Tryz.sizeOf66
  v75 := Tryz.zeroValue66
  t76 := Tryz.underlying67
  a76 := Tryz.isAgg67
  z76 := Tryz.sizeOf67
  v76 := Tryz.zeroValue67
  t127 := Tryz.underlying157
  a127 := Tryz.isAgg157
  z127 := Tryz.sizeOf157
  v127 := Tryz.zeroValue157
  t164 := Tryz.underlying216
  a164 := Tryz.isAgg216
  z164 := Tryz.sizeOf216
  v164 := Tryz.zeroValue216 }
theorem Tryz.Builder_Extra_156 : Builder.Extra Tryz.prog Tryz.lays156_ren := {
  sizeBuilder := by kernel_rfl
  liesBuilder := by kernel_rfl
  t5 := Tryz.underlying5
  a5 := Tryz.isAgg5
  z5 := Tryz.sizeOf5
  v5 := Tryz.zeroValue5
  infoByte := by kernel_rfl
  cellsByte := by kernel_rfl
  sizeByte := by kernel_rfl
  neB5 := by decide }
open Go.RowKit in
theorem Tryz.strings_Join_none (a : Option Addr) (c : Nat) (sep : ByteArray) (w : World) :
    Calls Tryz.prog 19 #[.slice a 0 c, .string sep] w fun e w' => e = .returned (.string ⟨#[]⟩) ∧ w' = w := Any.strings_Join_none Tryz.lays156 Tryz.Builder_Extra_156 a c sep w
open Go.RowKit in
theorem Tryz.strings_Join (bk o c : Nat) (xs : List ByteArray) (sep : ByteArray) (w : World) (hcells : ∀ (j : Nat) x, xs[j]? = some x → w.cell? ⟨bk, o + j, none⟩ = some (.string x)) (hbk : bk < w.heap.size) (hN : xs.length ≤ 140737488355328) (hcap : xs.length ≤ c) (hlen : (Lib.join (xs.map (·.data.toList)) sep.data.toList).length ≤ 140737488355328) :
    Calls Tryz.prog 19 #[.slice (some ⟨bk, o, none⟩) xs.length c, .string sep] w fun e w' => e = .returned (.string ⟨(Lib.join (xs.map (·.data.toList)) sep.data.toList).toArray⟩) ∧ Below w.heap.size w w' := Any.strings_Join Tryz.lays156 Tryz.Builder_Extra_156 bk o c xs sep w hcells hbk hN hcap hlen
def Tryz.lays125_ren : Go.Shelf.Ren := ⟨fun | 125 => 142 | 128 => 191 | 129 => 192 | n => n, fun | 46 => 192 | 3 => 3 | 51 => 241 | 53 => 211 | 4 => 4 | 5 => 5 | 9 => 9 | n => n, fun | n => n⟩
theorem Tryz.lays125 : Go.Proofs.Lays.n125 Tryz.prog Tryz.lays125_ren := {
  mixed := by kernel_rfl
  f125 := Tryz.func142.trans (congrArg some (by kernel_rfl))
  f128 := Tryz.func191.trans (congrArg some (by kernel_rfl))
  f129 := Tryz.func192.trans (congrArg some (by kernel_rfl))
  t3 := Tryz.underlying3
  a3 := Tryz.isAgg3
  z3 := Tryz.sizeOf3
  v3 := Tryz.zeroValue3
  t4 := Tryz.underlying4
  a4 := Tryz.isAgg4
  z4 := Tryz.sizeOf4
  v4 := Tryz.zeroValue4
  t5 := Tryz.underlying5
  a5 := Tryz.isAgg5
  z5 := Tryz.sizeOf5
  v5 := Tryz.zeroValue5
  t9 := Tryz.underlying9
  a9 := Tryz.isAgg9
  z9 := Tryz.sizeOf9
  v9 := Tryz.zeroValue9
  t46 := Tryz.underlying192
  a46 := Tryz.isAgg192
  z46 := Tryz.sizeOf192
  v46 := Tryz.zeroValue192
  t51 := Tryz.underlying241
  a51 := Tryz.isAgg241
  z51 := Tryz.sizeOf241
  v51 := Tryz.zeroValue241
  t53 := Tryz.underlying211
  a53 := Tryz.isAgg211
  z53 := Tryz.sizeOf211
  v53 := Tryz.zeroValue211 }
theorem Tryz.bits_Len (x : Int) (w : World) (h0 : 0 ≤ x) (h1 : x ≤ 18446744073709551615) :
    Calls Tryz.prog 142 #[.int .u64 x] w fun e w' => e = .returned (.int .i64 (Lib.bitLen x.toNat)) ∧ w' = w := Any.bits_Len Tryz.lays125 x w h0 h1
def Tryz.lays122_ren : Go.Shelf.Ren := ⟨fun | 122 => 65 | 215 => 124 | n => n, fun | 3 => 3 | 4 => 4 | n => n, fun | n => n⟩
theorem Tryz.lays122 : Go.Proofs.Lays.n122 Tryz.prog Tryz.lays122_ren := {
  mixed := by kernel_rfl
  f122 := Tryz.func65.trans (congrArg some (by kernel_rfl))
  f215 := Tryz.func124.trans (congrArg some (by kernel_rfl))
  t3 := Tryz.underlying3
  a3 := Tryz.isAgg3
  z3 := Tryz.sizeOf3
  v3 := Tryz.zeroValue3
  t4 := Tryz.underlying4
  a4 := Tryz.isAgg4
  z4 := Tryz.sizeOf4
  v4 := Tryz.zeroValue4 }
open Go.RowKit in
theorem Tryz.cmp_Compare_int (x y : Int) (w : World) :
    Calls Tryz.prog 65 #[.int .i64 x, .int .i64 y] w fun e w' => e = .returned (.int .i64 (Lib.compareInt x y)) ∧ w' = w := Any.cmp_Compare_int Tryz.lays122 x y w
def Tryz.laysM171_ren : Go.Shelf.Ren := ⟨fun | 171 => 18 | 243 => 56 | 246 => 111 | 283 => 159 | 284 => 160 | 285 => 161 | 286 => 162 | 129 => 192 | 317 => 214 | 318 => 215 | 319 => 216 | 320 => 217 | 337 => 253 | 338 => 254 | n => n, fun | 3 => 3 | 9 => 9 | 2 => 2 | 4 => 4 | 171 => 210 | 0 => 0 | 53 => 211 | 37 => 91 | 5 => 5 | 173 => 214 | 212 => 256 | 51 => 241 | 20 => 20 | 213 => 257 | 46 => 192 | 232 => 305 | 233 => 306 | n => n, fun | 17 => 3 | 18 => 7 | 19 => 8 | n => n⟩
theorem Tryz.laysM171 : Go.Proofs.LaysM.n171 Tryz.prog Tryz.laysM171_ren := {
  mixed := by kernel_rfl
  f129 := Tryz.func192.trans (congrArg some (by kernel_rfl))
  f171 := Tryz.func18.trans (congrArg some (by kernel_rfl))
  f243 := Tryz.func56.trans (congrArg some (by kernel_rfl))
  f246 := Tryz.func111.trans (congrArg some (by kernel_rfl))
  f283 := Tryz.func159.trans (congrArg some (by kernel_rfl))
  f284 := Tryz.func160.trans (congrArg some (by kernel_rfl))
  f285 := Tryz.func161.trans (congrArg some (by kernel_rfl))
  f286 := Tryz.func162.trans (congrArg some (by kernel_rfl))
  f317 := Tryz.func214.trans (congrArg some (by kernel_rfl))
  f318 := Tryz.func215.trans (congrArg some (by kernel_rfl))
  f319 := Tryz.func216.trans (congrArg some (by kernel_rfl))
  f320 := Tryz.func217.trans (congrArg some (by kernel_rfl))
  f337 := Tryz.func253.trans (congrArg some (by kernel_rfl))
  f338 := Tryz.func254.trans (congrArg some (by kernel_rfl))
  t0 := Tryz.underlying0
  a0 := Tryz.isAgg0
  z0 := Tryz.sizeOf0
  v0 := Tryz.zeroValue0
  t2 := Tryz.underlying2
  a2 := Tryz.isAgg2
  z2 := Tryz.sizeOf2
  v2 := Tryz.zeroValue2
  t3 := Tryz.underlying3
  a3 := Tryz.isAgg3
  z3 := Tryz.sizeOf3
  v3 := Tryz.zeroValue3
  t4 := Tryz.underlying4
  a4 := Tryz.isAgg4
  z4 := Tryz.sizeOf4
  v4 := Tryz.zeroValue4
  t5 := Tryz.underlying5
  a5 := Tryz.isAgg5
  z5 := Tryz.sizeOf5
  v5 := Tryz.zeroValue5
  t9 := Tryz.underlying9
  a9 := Tryz.isAgg9
  z9 := Tryz.sizeOf9
  v9 := Tryz.zeroValue9
  t20 := Tryz.underlying20
  a20 := Tryz.isAgg20
  z20 := Tryz.sizeOf20
  v20 := Tryz.zeroValue20
  t37 := Tryz.underlying91
  a37 := Tryz.isAgg91
  z37 := Tryz.sizeOf91
  v37 := Tryz.zeroValue91
  t46 := Tryz.underlying192
  a46 := Tryz.isAgg192
  z46 := Tryz.sizeOf192
  v46 := Tryz.zeroValue192
  t51 := Tryz.underlying241
  a51 := Tryz.isAgg241
  z51 := Tryz.sizeOf241
  v51 := Tryz.zeroValue241
  t53 := Tryz.underlying211
  a53 := Tryz.isAgg211
  z53 := Tryz.sizeOf211
  v53 := Tryz.zeroValue211
  t171 := Tryz.underlying210
  a171 := Tryz.isAgg210
  z171 := Tryz.sizeOf210
  v171 := Tryz.zeroValue210
  t173 := Tryz.underlying214
  a173 := Tryz.isAgg214
  z173 := Tryz.sizeOf214
  v173 := Tryz.zeroValue214
  t212 := Tryz.underlying256
  a212 := Tryz.isAgg256
  z212 := Tryz.sizeOf256
  v212 := Tryz.zeroValue256
  t213 := Tryz.underlying257
  a213 := Tryz.isAgg257
  z213 := Tryz.sizeOf257
  t232 := Tryz.underlying305
  a232 := Tryz.isAgg305
  z232 := Tryz.sizeOf305
  v232 := Tryz.zeroValue305
  t233 := Tryz.underlying306
  a233 := Tryz.isAgg306
  z233 := Tryz.sizeOf306
  v233 := Tryz.zeroValue306
  g17 := by kernel_rfl
  g18 := by kernel_rfl
  g19 := by kernel_rfl
  i0 := by kernel_rfl
  i2 := by kernel_rfl
  i3 := by kernel_rfl
  i4 := by kernel_rfl
  i5 := by kernel_rfl
  i9 := by kernel_rfl
  i20 := by kernel_rfl
  i37 := by kernel_rfl
  i46 := by kernel_rfl
  i51 := by kernel_rfl
  i53 := by kernel_rfl
  i171 := by kernel_rfl
  i173 := by kernel_rfl
  i212 := by kernel_rfl
  i232 := by kernel_rfl
  i233 := by kernel_rfl
  m17 := by kernel_rfl
  m18 := by kernel_rfl
  m19 := by kernel_rfl }
open Go.RowKit Go.Sort Go.Lib in
theorem Tryz.strconv_Itoa (n : Int) (h0 : -9223372036854775808 ≤ n) (h1 : n ≤ 9223372036854775807) (w : World) (htab : Lib.TabIs Tryz.prog w "internal/strconv.uint64pow10" .u64 Lib.pow10Tab) :
    Calls Tryz.prog 18 #[.int .i64 n] w fun e w' => e = .returned (.string ⟨(Lib.itoa n).toArray⟩) ∧ ∃ k os, w' = grow (w.drewN k) os := Any.strconv_Itoa Tryz.laysM171 n h0 h1 w htab
def Tryz.laysC172_ren : Go.Shelf.Ren := ⟨fun | 172 => 25 | 244 => 61 | 245 => 62 | 247 => 117 | 279 => 118 | 280 => 119 | 281 => 120 | 282 => 121 | 287 => 169 | 316 => 170 | 171 => 18 | 205 => 171 | 321 => 223 | 322 => 224 | 243 => 56 | 246 => 111 | 283 => 159 | 284 => 160 | 285 => 161 | 286 => 162 | 129 => 192 | 317 => 214 | 318 => 215 | 319 => 216 | 320 => 217 | 337 => 253 | 338 => 254 | n => n, fun | 9 => 9 | 3 => 3 | 75 => 66 | 76 => 67 | 4 => 4 | 5 => 5 | 167 => 160 | 37 => 91 | 0 => 0 | 85 => 161 | 2 => 2 | 168 => 163 | 53 => 211 | 175 => 222 | 46 => 192 | 210 => 225 | 127 => 157 | 145 => 262 | 143 => 260 | 21 => 21 | 171 => 210 | 173 => 214 | 212 => 256 | 51 => 241 | 20 => 20 | 213 => 257 | 232 => 305 | 233 => 306 | 80 => 95 | n => n, fun | 15 => 0 | 16 => 1 | 17 => 3 | 18 => 7 | 19 => 8 | n => n⟩
theorem Tryz.laysC172 : Go.Proofs.LaysC.n172 Tryz.prog Tryz.laysC172_ren := {
  mixed := by kernel_rfl
  f129 := Tryz.func192.trans (congrArg some (by kernel_rfl))
  f171 := Tryz.func18.trans (congrArg some (by kernel_rfl))
  f172 := Tryz.func25.trans (congrArg some (by kernel_rfl))
  f205 := Tryz.func171.trans (congrArg some (by kernel_rfl))
  f243 := Tryz.func56.trans (congrArg some (by kernel_rfl))
  f244 := Tryz.func61.trans (congrArg some (by kernel_rfl))
  f245 := Tryz.func62.trans (congrArg some (by kernel_rfl))
  f246 := Tryz.func111.trans (congrArg some (by kernel_rfl))
  f247 := Tryz.func117.trans (congrArg some (by kernel_rfl))
  f279 := Tryz.func118.trans (congrArg some (by kernel_rfl))
  f280 := Tryz.func119.trans (congrArg some (by kernel_rfl))
  f281 := Tryz.func120.trans (congrArg some (by kernel_rfl))
  f282 := Tryz.func121.trans (congrArg some (by kernel_rfl))
  f283 := Tryz.func159.trans (congrArg some (by kernel_rfl))
  f284 := Tryz.func160.trans (congrArg some (by kernel_rfl))
  f285 := Tryz.func161.trans (congrArg some (by kernel_rfl))
  f286 := Tryz.func162.trans (congrArg some (by kernel_rfl))
  f287 := Tryz.func169.trans (congrArg some (by kernel_rfl))
  f316 := Tryz.func170.trans (congrArg some (by kernel_rfl))
  f317 := Tryz.func214.trans (congrArg some (by kernel_rfl))
  f318 := Tryz.func215.trans (congrArg some (by kernel_rfl))
  f319 := Tryz.func216.trans (congrArg some (by kernel_rfl))
  f320 := Tryz.func217.trans (congrArg some (by kernel_rfl))
  f321 := Tryz.func223.trans (congrArg some (by kernel_rfl))
  f322 := Tryz.func224.trans (congrArg some (by kernel_rfl))
  f337 := Tryz.func253.trans (congrArg some (by kernel_rfl))
  f338 := Tryz.func254.trans (congrArg some (by kernel_rfl))
  t0 := Tryz.underlying0
  a0 := Tryz.isAgg0
  z0 := Tryz.sizeOf0
  v0 := Tryz.zeroValue0
  t2 := Tryz.underlying2
  a2 := Tryz.isAgg2
  z2 := Tryz.sizeOf2
  v2 := Tryz.zeroValue2
  t3 := Tryz.underlying3
  a3 := Tryz.isAgg3
  z3 := Tryz.sizeOf3
  v3 := Tryz.zeroValue3
  t4 := Tryz.underlying4
  a4 := Tryz.isAgg4
  z4 := Tryz.sizeOf4
  v4 := Tryz.zeroValue4
  t5 := Tryz.underlying5
  a5 := Tryz.isAgg5
  z5 := Tryz.sizeOf5
  v5 := Tryz.zeroValue5
  t9 := Tryz.underlying9
  a9 := Tryz.isAgg9
  z9 := Tryz.sizeOf9
  v9 := Tryz.zeroValue9
  t20 := Tryz.underlying20
  a20 := Tryz.isAgg20
  z20 := Tryz.sizeOf20
  v20 := Tryz.zeroValue20
  t21 := Tryz.underlying21
  a21 := Tryz.isAgg21
  z21 := Tryz.sizeOf21
  v21 := Tryz.zeroValue21
  t37 := Tryz.underlying91
  a37 := Tryz.isAgg91
  z37 := Tryz.sizeOf91
  v37 := Tryz.zeroValue91
  t46 := Tryz.underlying192
  a46 := Tryz.isAgg192
  z46 := Tryz.sizeOf192
  v46 := Tryz.zeroValue192
  t51 := Tryz.underlying241
  a51 := Tryz.isAgg241
  z51 := Tryz.sizeOf241
  v51 := Tryz.zeroValue241
  t53 := Tryz.underlying211
  a53 := Tryz.isAgg211
  z53 := Tryz.sizeOf211
  v53 := Tryz.zeroValue211
  t75 := Tryz.underlying66
  a75 := Tryz.isAgg66
  z75 := Tryz.sizeOf66
  v75 := Tryz.zeroValue66
  t76 := Tryz.underlying67
  a76 := Tryz.isAgg67
  z76 := Tryz.sizeOf67
  v76 := Tryz.zeroValue67
  t85 := Tryz.underlying161
  a85 := Tryz.isAgg161
  z85 := Tryz.sizeOf161
  v85 := Tryz.zeroValue161
  t127 := Tryz.underlying157
  a127 := Tryz.isAgg157
  z127 := Tryz.sizeOf157
  v127 := Tryz.zeroValue157
  t143 := Tryz.underlying260
  a143 := Tryz.isAgg260
  z143 := Tryz.sizeOf260
  v143 := Tryz.zeroValue260
  t145 := Tryz.underlying262
  a145 := Tryz.isAgg262
  z145 := Tryz.sizeOf262
  v145 := Tryz.zeroValue262
  t167 := Tryz.underlying160
  a167 := Tryz.isAgg160
  z167 := Tryz.sizeOf160
  v167 := Tryz.zeroValue160
  t168 := Tryz.underlying163
  a168 := Tryz.isAgg163
  z168 := Tryz.sizeOf163
  v168 := Tryz.zeroValue163
  t171 := Tryz.underlying210
  a171 := Tryz.isAgg210
  z171 := Tryz.sizeOf210
  v171 := Tryz.zeroValue210
  t173 := Tryz.underlying214
  a173 := Tryz.isAgg214
  z173 := Tryz.sizeOf214
  v173 := Tryz.zeroValue214
  t175 := Tryz.underlying222
  a175 := Tryz.isAgg222
  z175 := Tryz.sizeOf222
  v175 := Tryz.zeroValue222
  t210 := Tryz.underlying225
  a210 := Tryz.isAgg225
  z210 := Tryz.sizeOf225
  v210 := Tryz.zeroValue225
  t212 := Tryz.underlying256
  a212 := Tryz.isAgg256
  z212 := Tryz.sizeOf256
  v212 := Tryz.zeroValue256
  t213 := Tryz.underlying257
  a213 := Tryz.isAgg257
  z213 := Tryz.sizeOf257
  t232 := Tryz.underlying305
  a232 := Tryz.isAgg305
  z232 := Tryz.sizeOf305
  v232 := Tryz.zeroValue305
  t233 := Tryz.underlying306
  a233 := Tryz.isAgg306
  z233 := Tryz.sizeOf306
  v233 := Tryz.zeroValue306
  g15 := by kernel_rfl
  g16 := by kernel_rfl
  g17 := by kernel_rfl
  g18 := by kernel_rfl
  g19 := by kernel_rfl
  t80 := Tryz.underlying95
  a80 := Tryz.isAgg95
  z80 := Tryz.sizeOf95
  v80 := Tryz.zeroValue95
  i0 := by kernel_rfl
  i2 := by kernel_rfl
  i3 := by kernel_rfl
  i4 := by kernel_rfl
  i5 := by kernel_rfl
  i9 := by kernel_rfl
  i20 := by kernel_rfl
  i21 := by kernel_rfl
  i37 := by kernel_rfl
  i46 := by kernel_rfl
  i51 := by kernel_rfl
  i53 := by kernel_rfl
  i75 := by kernel_rfl
  i76 := by kernel_rfl
  i80 := by kernel_rfl
  i85 := by kernel_rfl
  i127 := by kernel_rfl
  i143 := by kernel_rfl
  i145 := by kernel_rfl
  i167 := by kernel_rfl
  i168 := by kernel_rfl
  i171 := by kernel_rfl
  i173 := by kernel_rfl
  i175 := by kernel_rfl
  i210 := by kernel_rfl
  i212 := by kernel_rfl
  i232 := by kernel_rfl
  i233 := by kernel_rfl
  m15 := by kernel_rfl
  m16 := by kernel_rfl
  m17 := by kernel_rfl
  m18 := by kernel_rfl
  m19 := by kernel_rfl
  c0 := by kernel_rfl
  c2 := by kernel_rfl
  c3 := by kernel_rfl
  c4 := by kernel_rfl
  c5 := by kernel_rfl
  c9 := by kernel_rfl
  c20 := by kernel_rfl
  c21 := by kernel_rfl
  c37 := by kernel_rfl
  c46 := by kernel_rfl
  c51 := by kernel_rfl
  c53 := by kernel_rfl
  c75 := by kernel_rfl
  c76 := by kernel_rfl
  c80 := by kernel_rfl
  c85 := by kernel_rfl
  c127 := by kernel_rfl
  c143 := by kernel_rfl
  c145 := by kernel_rfl
  c167 := by kernel_rfl
  c168 := by kernel_rfl
  c171 := by kernel_rfl
  c173 := by kernel_rfl
  c175 := by kernel_rfl
  c210 := by kernel_rfl
  c212 := by kernel_rfl
  c213 := by kernel_rfl
  c232 := by kernel_rfl
  c233 := by kernel_rfl }
open Go.RowKit in
theorem Tryz.strconv_Atoi_ok (s : ByteArray) (hmax : s.size ≤ 9223372036854775806) (v : Int) (h : Lib.atoiAll s.data.toList = .ok v) (w : World) :
    Calls Tryz.prog 25 #[.string s] w fun e w' => e = .returned (.tuple #[.int .i64 v, .nilIface]) ∧ (w' = w ∨ ∃ t, w' = Lib.bytesWorld w 5 t) := Any.strconv_Atoi_ok Tryz.laysC172 s hmax v h w
def Tryz.lays189_ren : Go.Shelf.Ren := ⟨fun | 189 => 86 | 125 => 142 | 257 => 144 | 128 => 191 | 129 => 192 | 294 => 194 | 295 => 195 | 296 => 196 | 297 => 197 | 298 => 198 | 299 => 199 | 216 => 200 | 300 => 201 | 301 => 202 | 328 => 243 | 329 => 238 | 330 => 239 | 331 => 244 | 332 => 245 | 215 => 124 | 343 => 263 | n => n, fun | 28 => 130 | 3 => 3 | 46 => 192 | 0 => 0 | 51 => 241 | 53 => 211 | 4 => 4 | 183 => 235 | 182 => 234 | 131 => 136 | 5 => 5 | 9 => 9 | 218 => 271 | 222 => 275 | 228 => 298 | 229 => 299 | n => n, fun | n => n⟩
theorem Tryz.lays189 : Go.Proofs.Lays.n189 Tryz.prog Tryz.lays189_ren := {
  mixed := by kernel_rfl
  f125 := Tryz.func142.trans (congrArg some (by kernel_rfl))
  f128 := Tryz.func191.trans (congrArg some (by kernel_rfl))
  f129 := Tryz.func192.trans (congrArg some (by kernel_rfl))
  f189 := Tryz.func86.trans (congrArg some (by kernel_rfl))
  f215 := Tryz.func124.trans (congrArg some (by kernel_rfl))
  f216 := Tryz.func200.trans (congrArg some (by kernel_rfl))
  f257 := Tryz.func144.trans (congrArg some (by kernel_rfl))
  f294 := Tryz.func194.trans (congrArg some (by kernel_rfl))
  f295 := Tryz.func195.trans (congrArg some (by kernel_rfl))
  f296 := Tryz.func196.trans (congrArg some (by kernel_rfl))
  f297 := Tryz.func197.trans (congrArg some (by kernel_rfl))
  f298 := Tryz.func198.trans (congrArg some (by kernel_rfl))
  f299 := Tryz.func199.trans (congrArg some (by kernel_rfl))
  f300 := Tryz.func201.trans (congrArg some (by kernel_rfl))
  f301 := Tryz.func202.trans (congrArg some (by kernel_rfl))
  f328 := Tryz.func243.trans (congrArg some (by kernel_rfl))
  f329 := Tryz.func238.trans (congrArg some (by kernel_rfl))
  f330 := Tryz.func239.trans (congrArg some (by kernel_rfl))
  f331 := Tryz.func244.trans (congrArg some (by kernel_rfl))
  f332 := Tryz.func245.trans (congrArg some (by kernel_rfl))
  f343 := Tryz.func263.trans (congrArg some (by kernel_rfl))
  t0 := Tryz.underlying0
  a0 := Tryz.isAgg0
  z0 := Tryz.sizeOf0
  v0 := Tryz.zeroValue0
  t3 := Tryz.underlying3
  a3 := Tryz.isAgg3
  z3 := Tryz.sizeOf3
  v3 := Tryz.zeroValue3
  t4 := Tryz.underlying4
  a4 := Tryz.isAgg4
  z4 := Tryz.sizeOf4
  v4 := Tryz.zeroValue4
  t5 := Tryz.underlying5
  a5 := Tryz.isAgg5
  z5 := Tryz.sizeOf5
  v5 := Tryz.zeroValue5
  t9 := Tryz.underlying9
  a9 := Tryz.isAgg9
  z9 := Tryz.sizeOf9
  v9 := Tryz.zeroValue9
  t28 := Tryz.underlying130
  a28 := Tryz.isAgg130
  z28 := Tryz.sizeOf130
  v28 := Tryz.zeroValue130
  t46 := Tryz.underlying192
  a46 := Tryz.isAgg192
  z46 := Tryz.sizeOf192
  v46 := Tryz.zeroValue192
  t51 := Tryz.underlying241
  a51 := Tryz.isAgg241
  z51 := Tryz.sizeOf241
  v51 := Tryz.zeroValue241
  t53 := Tryz.underlying211
  a53 := Tryz.isAgg211
  z53 := Tryz.sizeOf211
  v53 := Tryz.zeroValue211
  t131 := Tryz.underlying136
  a131 := Tryz.isAgg136
  z131 := Tryz.sizeOf136
  v131 := Tryz.zeroValue136
  t182 := Tryz.underlying234
  a182 := Tryz.isAgg234
  z182 := Tryz.sizeOf234
  v182 := Tryz.zeroValue234
  t183 := Tryz.underlying235
  a183 := Tryz.isAgg235
  z183 := Tryz.sizeOf235
  v183 := Tryz.zeroValue235
  t218 := Tryz.underlying271
  a218 := Tryz.isAgg271
  z218 := Tryz.sizeOf271
  v218 := Tryz.zeroValue271
  t222 := Tryz.underlying275
  a222 := Tryz.isAgg275
  z222 := Tryz.sizeOf275
  v222 := Tryz.zeroValue275
  t228 := Tryz.underlying298
  a228 := Tryz.isAgg298
  z228 := Tryz.sizeOf298
  v228 := Tryz.zeroValue298
  t229 := Tryz.underlying299
  a229 := Tryz.isAgg299
  z229 := Tryz.sizeOf299
  v229 := Tryz.zeroValue299 }
open Go.Sort Go.RowKit in
theorem Tryz.slices_Sort_int (blk off cap : Nat) (zs : List Int) (w : World) (hH : Holds (Value.int .i64) w blk off zs.toArray) (hblk : blk < w.heap.size) (hsz : zs.length < 4611686018427387904) :
    Calls Tryz.prog 86 #[.slice (some ⟨blk, off, none⟩) zs.length cap] w fun e w' =>
      e = .returned (.tuple #[]) ∧ ∃ n os, w' = grow (putRow (Value.int .i64) (Sort.ahead w n) blk off (zs.mergeSort fun x y => decide (x ≤ y)).toArray) os := Any.slices_Sort_int Tryz.lays189 blk off cap zs w hH hblk hsz
def Tryz.lays146_ren : Go.Shelf.Ren := ⟨fun | 146 => 21 | 221 => 60 | 268 => 114 | 138 => 115 | 143 => 116 | 195 => 165 | 197 => 166 | 218 => 167 | 219 => 168 | 260 => 218 | 217 => 219 | 225 => 220 | 224 => 221 | 267 => 222 | 266 => 255 | 314 => 256 | n => n, fun | 9 => 9 | 31 => 31 | 3 => 3 | 4 => 4 | 0 => 0 | 105 => 219 | 21 => 21 | 5 => 5 | 46 => 192 | 119 => 289 | 139 => 292 | 138 => 291 | 146 => 293 | 51 => 241 | n => n, fun | 1 => 4 | 3 => 5 | 4 => 6 | n => n⟩
theorem Tryz.lays146 : Go.Proofs.Lays.n146 Tryz.prog Tryz.lays146_ren := {
  mixed := by kernel_rfl
  f138 := Tryz.func115.trans (congrArg some (by kernel_rfl))
  f143 := Tryz.func116.trans (congrArg some (by kernel_rfl))
  f146 := Tryz.func21.trans (congrArg some (by kernel_rfl))
  f195 := Tryz.func165.trans (congrArg some (by kernel_rfl))
  f197 := Tryz.func166.trans (congrArg some (by kernel_rfl))
  f217 := Tryz.func219.trans (congrArg some (by kernel_rfl))
  f218 := Tryz.func167.trans (congrArg some (by kernel_rfl))
  f219 := Tryz.func168.trans (congrArg some (by kernel_rfl))
  f221 := Tryz.func60.trans (congrArg some (by kernel_rfl))
  f224 := Tryz.func221.trans (congrArg some (by kernel_rfl))
  f225 := Tryz.func220.trans (congrArg some (by kernel_rfl))
  f260 := Tryz.func218.trans (congrArg some (by kernel_rfl))
  f266 := Tryz.func255.trans (congrArg some (by kernel_rfl))
  f267 := Tryz.func222.trans (congrArg some (by kernel_rfl))
  f268 := Tryz.func114.trans (congrArg some (by kernel_rfl))
  f314 := Tryz.func256.trans (congrArg some (by kernel_rfl))
  t0 := Tryz.underlying0
  a0 := Tryz.isAgg0
  z0 := Tryz.sizeOf0
  v0 := Tryz.zeroValue0
  t3 := Tryz.underlying3
  a3 := Tryz.isAgg3
  z3 := Tryz.sizeOf3
  v3 := Tryz.zeroValue3
  t4 := Tryz.underlying4
  a4 := Tryz.isAgg4
  z4 := Tryz.sizeOf4
  v4 := Tryz.zeroValue4
  t5 := Tryz.underlying5
  a5 := Tryz.isAgg5
  z5 := Tryz.sizeOf5
  v5 := Tryz.zeroValue5
  t9 := Tryz.underlying9
  a9 := Tryz.isAgg9
  z9 := Tryz.sizeOf9
  v9 := Tryz.zeroValue9
  t21 := Tryz.underlying21
  a21 := Tryz.isAgg21
  z21 := Tryz.sizeOf21
  v21 := Tryz.zeroValue21
  t31 := Tryz.underlying31
  a31 := Tryz.isAgg31
  z31 := Tryz.sizeOf31
  v31 := Tryz.zeroValue31
  t46 := Tryz.underlying192
  a46 := Tryz.isAgg192
  z46 := Tryz.sizeOf192
  v46 := Tryz.zeroValue192
  t51 := Tryz.underlying241
  a51 := Tryz.isAgg241
  z51 := Tryz.sizeOf241
  v51 := Tryz.zeroValue241
  t105 := Tryz.underlying219
  a105 := Tryz.isAgg219
  z105 := Tryz.sizeOf219
  v105 := Tryz.zeroValue219
  t119 := Tryz.underlying289
  a119 := Tryz.isAgg289
  z119 := Tryz.sizeOf289
  t138 := Tryz.underlying291
  a138 := Tryz.isAgg291
  z138 := Tryz.sizeOf291
  v138 := Tryz.zeroValue291
  t139 := Tryz.underlying292
  a139 := Tryz.isAgg292
  z139 := Tryz.sizeOf292
  v139 := Tryz.zeroValue292
  t146 := Tryz.underlying293
  a146 := Tryz.isAgg293
  z146 := Tryz.sizeOf293
  v146 := Tryz.zeroValue293
  g1 := by kernel_rfl
  g3 := by kernel_rfl
  g4 := by kernel_rfl }
open Go.RowKit Go.Lib in
theorem Tryz.strings_Split (s sep : ByteArray) (m : Int) (w : World) (hs : s.size < 4294967281) (hm : w.cell? ⟨4, 0, none⟩ = some (.int .i64 m)) (h1 : 1 ≤ sep.size) :
    Calls Tryz.prog 21 #[.string s, .string sep] w fun e w' =>
      e = .returned (.slice (some ⟨w.heap.size, 0, none⟩) (Lib.countB s sep + 1) (Lib.countB s sep + 1)) ∧ w' = w.alloc (.cells ((Lib.splitB sep 0 (Lib.countB s sep) s).map Value.string).toArray 9) := Any.strings_Split Tryz.lays146 (by kernel_rfl) s sep m w hs hm h1
def Tryz.lays264_ren : Go.Shelf.Ren := ⟨fun | 264 => 286 | n => n, fun | 53 => 211 | 46 => 192 | n => n, fun | n => n⟩
theorem Tryz.lays264 : Go.Proofs.Lays.n264 Tryz.prog Tryz.lays264_ren := {
  mixed := by kernel_rfl
  f264 := Tryz.func286.trans (congrArg some (by kernel_rfl))
  t46 := Tryz.underlying192
  a46 := Tryz.isAgg192
  z46 := Tryz.sizeOf192
  v46 := Tryz.zeroValue192
  t53 := Tryz.underlying211
  a53 := Tryz.isAgg211
  z53 := Tryz.sizeOf211
  v53 := Tryz.zeroValue211 }
open Go.RowKit Go.Lib in
theorem Tryz.bits_Mul64 (x y : Nat) (hx : x < 18446744073709551616) (hy : y < 18446744073709551616) (w : World) :
    Calls Tryz.prog 286 #[.int .u64 x, .int .u64 y] w fun e w' => e = .returned (.tuple #[.int .u64 ((x * y / 18446744073709551616 : Nat) : Int), .int .u64 ((x * y % 18446744073709551616 : Nat) : Int)]) ∧ w' = w := Any.bits_Mul64 Tryz.lays264 x y hx hy w
def Tryz.laysNm215_ren : Go.Shelf.Ren := ⟨fun | 15 => 88 | n => n, fun | 22 => 130 | 3 => 3 | 4 => 4 | n => n, fun | n => n⟩
theorem Tryz.laysNm215 : Go.Proofs.Lays2.n15 Tryz.prog Tryz.laysNm215_ren := {
  mixed := by kernel_rfl
  f15 := Tryz.func88.trans (congrArg some (by kernel_rfl))
  t3 := Tryz.underlying3
  a3 := Tryz.isAgg3
  z3 := Tryz.sizeOf3
  v3 := Tryz.zeroValue3
  t4 := Tryz.underlying4
  a4 := Tryz.isAgg4
  z4 := Tryz.sizeOf4
  v4 := Tryz.zeroValue4
  t22 := Tryz.underlying130
  a22 := Tryz.isAgg130
  z22 := Tryz.sizeOf130
  v22 := Tryz.zeroValue130
  i3 := by kernel_rfl }
open Go.RowKit Go.Lib in
theorem Tryz.slices_Clone_int (b off n c : Nat) (zs : List Int) (w : World) (hz : n ≤ zs.length) (hbig : n * 8 ≤ 140737488355328) (hc : ∀ j, j < zs.length → w.cell? ⟨b, off + j, none⟩ = some (.int .i64 (zs.getD j 0))) :
    Calls Tryz.prog 88 #[.slice (some ⟨b, off, none⟩) n c] w fun e w' => ∃ v', e = .returned v' ∧ w'.ownsRow w.heap.size 3 1 v' n ((zs.take n).map (Value.int .i64)) ∧ v' ≠ .slice none 0 0 ∧ Below w.heap.size w w' := Any.slices_Clone_int Tryz.laysNm215 b off n c zs w hz hbig hc
open Go.RowKit Go.Lib in
theorem Tryz.slices_Clone_int_nil (n c : Nat) (w : World) :
    Calls Tryz.prog 88 #[.slice none n c] w fun e w' => e = .returned (.slice none 0 0) ∧ w' = w := Any.slices_Clone_int_nil Tryz.laysNm215 n c w
def Tryz.laysNm216_ren : Go.Shelf.Ren := ⟨fun | 16 => 24 | n => n, fun | 24 => 31 | 9 => 9 | 4 => 4 | n => n, fun | n => n⟩
theorem Tryz.laysNm216 : Go.Proofs.Lays2.n16 Tryz.prog Tryz.laysNm216_ren := {
  mixed := by kernel_rfl
  f16 := Tryz.func24.trans (congrArg some (by kernel_rfl))
  t4 := Tryz.underlying4
  a4 := Tryz.isAgg4
  z4 := Tryz.sizeOf4
  v4 := Tryz.zeroValue4
  t9 := Tryz.underlying9
  a9 := Tryz.isAgg9
  z9 := Tryz.sizeOf9
  v9 := Tryz.zeroValue9
  t24 := Tryz.underlying31
  a24 := Tryz.isAgg31
  z24 := Tryz.sizeOf31
  v24 := Tryz.zeroValue31
  i9 := by kernel_rfl }
open Go.RowKit Go.Lib in
theorem Tryz.slices_Clone_string (b off n c : Nat) (zs : List ByteArray) (w : World) (hz : n ≤ zs.length) (hbig : n * 16 ≤ 140737488355328) (hc : ∀ j, j < zs.length → w.cell? ⟨b, off + j, none⟩ = some (.string (zs.getD j ByteArray.empty))) :
    Calls Tryz.prog 24 #[.slice (some ⟨b, off, none⟩) n c] w fun e w' => ∃ v', e = .returned v' ∧ w'.ownsRow w.heap.size 9 1 v' n ((zs.take n).map (Value.string)) ∧ v' ≠ .slice none 0 0 ∧ Below w.heap.size w w' := Any.slices_Clone_string Tryz.laysNm216 b off n c zs w hz hbig hc
open Go.RowKit Go.Lib in
theorem Tryz.slices_Clone_string_nil (n c : Nat) (w : World) :
    Calls Tryz.prog 24 #[.slice none n c] w fun e w' => e = .returned (.slice none 0 0) ∧ w' = w := Any.slices_Clone_string_nil Tryz.laysNm216 n c w
open Go.RowKit Go.Lib in
theorem Tryz.slices_Clone_int_zero (a : Addr) (c : Nat) (w : World) :
    Calls Tryz.prog 88 #[.slice (some a) 0 c] w fun e w' => ∃ v', e = .returned v' ∧ w'.ownsRow w.heap.size 3 1 v' 0 [] ∧ v' ≠ .slice none 0 0 ∧ Below w.heap.size w w' := Any.slices_Clone_int_zero Tryz.laysNm215 a c w
open Go.RowKit Go.Lib in
theorem Tryz.slices_Clone_string_zero (a : Addr) (c : Nat) (w : World) :
    Calls Tryz.prog 24 #[.slice (some a) 0 c] w fun e w' => ∃ v', e = .returned v' ∧ w'.ownsRow w.heap.size 9 1 v' 0 [] ∧ v' ≠ .slice none 0 0 ∧ Below w.heap.size w w' := Any.slices_Clone_string_zero Tryz.laysNm216 a c w
def Tryz.laysNm220_ren : Go.Shelf.Ren := ⟨fun | 20 => 242 | n => n, fun | 22 => 130 | 3 => 3 | 4 => 4 | 0 => 0 | n => n, fun | n => n⟩
theorem Tryz.laysNm220 : Go.Proofs.Lays2.n20 Tryz.prog Tryz.laysNm220_ren := {
  mixed := by kernel_rfl
  f20 := Tryz.func242.trans (congrArg some (by kernel_rfl))
  t0 := Tryz.underlying0
  a0 := Tryz.isAgg0
  z0 := Tryz.sizeOf0
  v0 := Tryz.zeroValue0
  t3 := Tryz.underlying3
  a3 := Tryz.isAgg3
  z3 := Tryz.sizeOf3
  v3 := Tryz.zeroValue3
  t4 := Tryz.underlying4
  a4 := Tryz.isAgg4
  z4 := Tryz.sizeOf4
  v4 := Tryz.zeroValue4
  t22 := Tryz.underlying130
  a22 := Tryz.isAgg130
  z22 := Tryz.sizeOf130
  v22 := Tryz.zeroValue130
  i3 := by kernel_rfl }
open Go.RowKit Go.Lib Go.Sort in
theorem Tryz.slices_Compact_int (blk off cap : Nat) (zs : List Int) (w : World) (hH : Holds (Value.int .i64) w blk off zs.toArray) (hsz : zs.length ≤ 9223372036854775807) (hcap : zs.length ≤ cap) :
    Calls Tryz.prog 242 #[.slice (some ⟨blk, off, none⟩) zs.length cap] w fun e w' => e = .returned (.slice (some ⟨blk, off, none⟩) (Lib.compact zs).length cap) ∧ ∃ q, w' = putRow (Value.int .i64) (Sort.ahead w q) blk off (Lib.compact zs ++ List.replicate (zs.length - (Lib.compact zs).length) 0).toArray := Any.slices_Compact_int Tryz.laysNm220 blk off cap zs w hH hsz hcap
open Go.RowKit Go.Lib Go.Sort in
theorem Tryz.slices_Compact_int_empty (a : Option Addr) (cap : Nat) (w : World) :
    Calls Tryz.prog 242 #[.slice a 0 cap] w fun e w' => e = .returned (.slice a 0 cap) ∧ w' = w := Any.slices_Compact_int_empty Tryz.laysNm220 a cap w
open Go.RowKit Go.Lib Go.Sort in
theorem Tryz.slices_Compact_int_cells (b off n c : Nat) (zs : List Int) (w : World) (hz : n ≤ zs.length) (hbig : n ≤ 9223372036854775807) (hcap : n ≤ c) (hc : ∀ j, j < zs.length → w.cell? ⟨b, off + j, none⟩ = some (.int .i64 (zs.getD j 0))) (hf : ∀ j, j < n → w.frozen? ⟨b, off + j, none⟩ = false) :
    Calls Tryz.prog 242 #[.slice (some ⟨b, off, none⟩) n c] w fun e w' => e = .returned (.slice (some ⟨b, off, none⟩) (Lib.compact (zs.take n)).length c) ∧ ∃ q, w' = (w.drewN q).setCells b off ((Lib.compact (zs.take n) ++ List.replicate (n - (Lib.compact (zs.take n)).length) 0).map (Value.int .i64)) := Any.slices_Compact_int_cells Tryz.laysNm220 b off n c zs w hz hbig hcap hc hf
open Go.RowKit Go.Sort in
theorem Tryz.slices_Sort_int_none (p : Option Addr) (cap : Nat) (w : World) :
    Calls Tryz.prog 86 #[.slice p 0 cap] w fun e w' => e = .returned (.tuple #[]) ∧ w' = w := Any.slices_Sort_int_none Tryz.lays189 p cap w
def Tryz.laysSlH10_f87_ren : Go.Shelf.Ren := ⟨fun | 10 => 87 | 6 => 145 | n => n, fun | 22 => 130 | 23 => 3 | 25 => 134 | 3 => 3 | 4 => 4 | 0 => 0 | n => n, fun | n => n⟩
theorem Tryz.laysSlH10_f87 : Go.Proofs.SlLaysH.n10 Tryz.prog Tryz.laysSlH10_f87_ren := {
  mixed := by kernel_rfl
  f6 := ⟨Tryz.f145.name, by decide, Tryz.func145.trans (congrArg some (by kernel_rfl))⟩
  f10 := ⟨Tryz.f87.name, by decide, Tryz.func87.trans (congrArg some (by kernel_rfl))⟩
  t0 := Tryz.underlying0
  a0 := Tryz.isAgg0
  z0 := Tryz.sizeOf0
  v0 := Tryz.zeroValue0
  t3 := Tryz.underlying3
  a3 := Tryz.isAgg3
  z3 := Tryz.sizeOf3
  v3 := Tryz.zeroValue3
  t4 := Tryz.underlying4
  a4 := Tryz.isAgg4
  z4 := Tryz.sizeOf4
  v4 := Tryz.zeroValue4
  t22 := Tryz.underlying130
  a22 := Tryz.isAgg130
  z22 := Tryz.sizeOf130
  v22 := Tryz.zeroValue130
  a23 := Tryz.isAgg3
  z23 := Tryz.sizeOf3
  t25 := Tryz.underlying134
  a25 := Tryz.isAgg134
  z25 := Tryz.sizeOf134
  v25 := Tryz.zeroValue134 }
open Go.RowKit Go.Lib Go.Sort in
theorem Tryz.slices_DeleteFunc {α : Type} [Inhabited α] (enc : α → Value) (hO : OneCell enc) (p : α → Bool) (g : Nat) (lb : Array Value) (eg : ∀ args w, (callFunc g args).run Tryz.prog w = .ok (.enter g args) w) (zr : α) (v23 : ∀ w, (zeroValue 3).run Tryz.prog w = .ok (enc zr) w) (blk off cap : Nat) (d : Array α) (w : World) (hp : PredAt Tryz.prog g lb enc p w) (hpo : PredOver Tryz.prog g lb enc p blk off d.size w) (hH : Holds enc w blk off d) (hsz : d.size ≤ 9223372036854775807) (hcap : d.size ≤ cap) :
    Calls Tryz.prog 87 #[.slice (some ⟨blk, off, none⟩) d.size cap, .func (.func g) #[] lb] w fun e w' => e = .returned (.slice (some ⟨blk, off, none⟩) (d.toList.filter fun x => !p x).length cap) ∧ ∃ q, w' = putRow enc (Sort.ahead w q) blk off ((d.toList.filter fun x => !p x) ++ List.replicate (d.size - (d.toList.filter fun x => !p x).length) zr).toArray := AnyE.slices_DeleteFunc Tryz.laysSlH10_f87 enc hO p g lb eg zr v23 blk off cap d w hp hpo hH hsz hcap
def Tryz.laysSortPt_ren : Go.Shelf.Ren := ⟨fun | 6 => 230 | 15 => 142 | 14 => 261 | 28 => 191 | 29 => 192 | 20 => 270 | 21 => 271 | 22 => 272 | 23 => 273 | 24 => 274 | 25 => 275 | 26 => 276 | 27 => 277 | 46 => 289 | 47 => 238 | 48 => 239 | 49 => 290 | 50 => 291 | 57 => 296 | n => n, fun | 22 => 75 | 24 => 73 | 25 => 108 | 3 => 3 | 39 => 192 | 0 => 0 | 53 => 241 | 55 => 211 | 4 => 4 | 46 => 235 | 45 => 234 | 50 => 136 | 5 => 5 | 9 => 9 | 66 => 271 | 70 => 275 | 76 => 298 | 77 => 299 | n => n, fun | n => n⟩
theorem Tryz.laysSortPt : Go.Proofs.SlLaysF0.n6 Tryz.prog Tryz.laysSortPt_ren := {
  mixed := by kernel_rfl
  f6 := ⟨Tryz.f230.name, by decide, Tryz.func230.trans (congrArg some (by kernel_rfl))⟩
  f14 := ⟨Tryz.f261.name, by decide, Tryz.func261.trans (congrArg some (by kernel_rfl))⟩
  f15 := Tryz.func142.trans (congrArg some (by kernel_rfl))
  f20 := ⟨Tryz.f270.name, by decide, Tryz.func270.trans (congrArg some (by kernel_rfl))⟩
  f21 := ⟨Tryz.f271.name, by decide, Tryz.func271.trans (congrArg some (by kernel_rfl))⟩
  f22 := ⟨Tryz.f272.name, by decide, Tryz.func272.trans (congrArg some (by kernel_rfl))⟩
  f23 := ⟨Tryz.f273.name, by decide, Tryz.func273.trans (congrArg some (by kernel_rfl))⟩
  f24 := ⟨Tryz.f274.name, by decide, Tryz.func274.trans (congrArg some (by kernel_rfl))⟩
  f25 := ⟨Tryz.f275.name, by decide, Tryz.func275.trans (congrArg some (by kernel_rfl))⟩
  f26 := ⟨Tryz.f276.name, by decide, Tryz.func276.trans (congrArg some (by kernel_rfl))⟩
  f27 := ⟨Tryz.f277.name, by decide, Tryz.func277.trans (congrArg some (by kernel_rfl))⟩
  f28 := Tryz.func191.trans (congrArg some (by kernel_rfl))
  f29 := Tryz.func192.trans (congrArg some (by kernel_rfl))
  f46 := ⟨Tryz.f289.name, by decide, Tryz.func289.trans (congrArg some (by kernel_rfl))⟩
  f47 := Tryz.func238.trans (congrArg some (by kernel_rfl))
  f48 := Tryz.func239.trans (congrArg some (by kernel_rfl))
  f49 := ⟨Tryz.f290.name, by decide, Tryz.func290.trans (congrArg some (by kernel_rfl))⟩
  f50 := ⟨Tryz.f291.name, by decide, Tryz.func291.trans (congrArg some (by kernel_rfl))⟩
  f57 := ⟨Tryz.f296.name, by decide, Tryz.func296.trans (congrArg some (by kernel_rfl))⟩
  t0 := Tryz.underlying0
  a0 := Tryz.isAgg0
  z0 := Tryz.sizeOf0
  v0 := Tryz.zeroValue0
  t3 := Tryz.underlying3
  a3 := Tryz.isAgg3
  z3 := Tryz.sizeOf3
  v3 := Tryz.zeroValue3
  t4 := Tryz.underlying4
  a4 := Tryz.isAgg4
  z4 := Tryz.sizeOf4
  v4 := Tryz.zeroValue4
  t5 := Tryz.underlying5
  a5 := Tryz.isAgg5
  z5 := Tryz.sizeOf5
  v5 := Tryz.zeroValue5
  t9 := Tryz.underlying9
  a9 := Tryz.isAgg9
  z9 := Tryz.sizeOf9
  v9 := Tryz.zeroValue9
  t22 := Tryz.underlying75
  a22 := Tryz.isAgg75
  z22 := Tryz.sizeOf75
  v22 := Tryz.zeroValue75
  t25 := Tryz.underlying108
  a25 := Tryz.isAgg108
  z25 := Tryz.sizeOf108
  v25 := Tryz.zeroValue108
  t39 := Tryz.underlying192
  a39 := Tryz.isAgg192
  z39 := Tryz.sizeOf192
  v39 := Tryz.zeroValue192
  t45 := Tryz.underlying234
  a45 := Tryz.isAgg234
  z45 := Tryz.sizeOf234
  v45 := Tryz.zeroValue234
  t46 := Tryz.underlying235
  a46 := Tryz.isAgg235
  z46 := Tryz.sizeOf235
  v46 := Tryz.zeroValue235
  t50 := Tryz.underlying136
  a50 := Tryz.isAgg136
  z50 := Tryz.sizeOf136
  v50 := Tryz.zeroValue136
  t53 := Tryz.underlying241
  a53 := Tryz.isAgg241
  z53 := Tryz.sizeOf241
  v53 := Tryz.zeroValue241
  t55 := Tryz.underlying211
  a55 := Tryz.isAgg211
  z55 := Tryz.sizeOf211
  v55 := Tryz.zeroValue211
  t66 := Tryz.underlying271
  a66 := Tryz.isAgg271
  z66 := Tryz.sizeOf271
  v66 := Tryz.zeroValue271
  t70 := Tryz.underlying275
  a70 := Tryz.isAgg275
  z70 := Tryz.sizeOf275
  v70 := Tryz.zeroValue275
  t76 := Tryz.underlying298
  a76 := Tryz.isAgg298
  z76 := Tryz.sizeOf298
  v76 := Tryz.zeroValue298
  t77 := Tryz.underlying299
  a77 := Tryz.isAgg299
  z77 := Tryz.sizeOf299
  v77 := Tryz.zeroValue299 }
def Tryz.laysInsEv_ren : Go.Shelf.Ren := ⟨fun | 20 => 122 | n => n, fun | 24 => 23 | 22 => 28 | 3 => 3 | 25 => 81 | 4 => 4 | 0 => 0 | n => n, fun | n => n⟩
theorem Tryz.laysInsEv : Go.Proofs.SlLaysF0.n20 Tryz.prog Tryz.laysInsEv_ren := {
  mixed := by kernel_rfl
  f20 := ⟨Tryz.f122.name, by decide, Tryz.func122.trans (congrArg some (by kernel_rfl))⟩
  t0 := Tryz.underlying0
  a0 := Tryz.isAgg0
  z0 := Tryz.sizeOf0
  v0 := Tryz.zeroValue0
  t3 := Tryz.underlying3
  a3 := Tryz.isAgg3
  z3 := Tryz.sizeOf3
  v3 := Tryz.zeroValue3
  t4 := Tryz.underlying4
  a4 := Tryz.isAgg4
  z4 := Tryz.sizeOf4
  v4 := Tryz.zeroValue4
  t22 := Tryz.underlying28
  a22 := Tryz.isAgg28
  z22 := Tryz.sizeOf28
  v22 := Tryz.zeroValue28
  t25 := Tryz.underlying81
  a25 := Tryz.isAgg81
  z25 := Tryz.sizeOf81
  v25 := Tryz.zeroValue81 }
def Tryz.laysClonePt_ren : Go.Shelf.Ren := ⟨fun | 41 => 78 | n => n, fun | 22 => 75 | 23 => 73 | 4 => 4 | n => n, fun | n => n⟩
theorem Tryz.laysClonePt : Go.Proofs.SlLaysE0.n41 Tryz.prog Tryz.laysClonePt_ren := {
  mixed := by kernel_rfl
  f41 := ⟨Tryz.f78.name, by decide, Tryz.func78.trans (congrArg some (by kernel_rfl))⟩
  t4 := Tryz.underlying4
  a4 := Tryz.isAgg4
  z4 := Tryz.sizeOf4
  v4 := Tryz.zeroValue4
  t22 := Tryz.underlying75
  a22 := Tryz.isAgg75
  z22 := Tryz.sizeOf75
  v22 := Tryz.zeroValue75 }
end Go.Proofs

namespace Go.Proofs.YtompfgofaplffaaGreatDoor
open Go.RowKit Hach

theorem ret_i {a b : Int} (h : a = b) : Ending.returned (Value.int .i64 a) = .returned (.int .i64 b) := by rw [h]
theorem ret_u {a b : Int} (h : a = b) : Ending.returned (Value.int .u64 a) = .returned (.int .u64 b) := by rw [h]
theorem ret_b {a b : Bool} (h : a = b) : Ending.returned (Value.bool a) = .returned (.bool b) := by rw [h]
/-- The words of a product. -/
def wH (x y : Nat) : Int := ((x * y / 18446744073709551616 : Nat) : Int)
def wL (x y : Nat) : Int := ((x * y % 18446744073709551616 : Nat) : Int)
def I64 (n : Int) : Prop := -9223372036854775808 ≤ n ∧ n ≤ 9223372036854775807

theorem size_any (n : Int) (h : I64 n) (w : World) : Calls Tryz.prog 287 #[.int .i64 n] w fun e w' => e = .returned (.int .u64 (n.natAbs : Int)) ∧ w' = w := by
  unfold I64 at h
  by_cases hn : n < 0
  · have t : decide (n < 0) = true := by simpa using hn
    go_enter Tryz.func287, Tryz.ntmps287
    go_wp2_with fail
    go_ret
    exact ⟨ret_u (by simp only [IntKind.wrap_u64]; omega), rfl⟩
  · have t : decide (n < 0) = false := by simpa using hn
    go_enter Tryz.func287, Tryz.ntmps287
    go_wp2_with fail
    go_ret
    exact ⟨ret_u (by omega), rfl⟩
theorem ext_new {w : World} {o : Obj} : Ext w (w.alloc o) := Ext.alloc w o
set_option maxRecDepth 100000 in
theorem times_any (a b : Int) (ha : I64 a) (hb : I64 b) (w : World) :
    Calls Tryz.prog 268 #[.int .i64 a, .int .i64 b] w fun e w' => e = .returned (.agg #[.int .u64 (wH a.natAbs b.natAbs), .int .u64 (wL a.natAbs b.natAbs)]) ∧ Ext w w' := by
  have SA := Lib.hid size_any
  have HM : Hid (∀ x y : Nat, x < 18446744073709551616 → y < 18446744073709551616 → ∀ w : World, Calls Tryz.prog 286 #[.int .u64 x, .int .u64 y] w fun e w' => e = .returned (.tuple #[.int .u64 (wH x y), .int .u64 (wL x y)]) ∧ w' = w) := Lib.hid Tryz.bits_Mul64
  have hx : a.natAbs < 18446744073709551616 := by unfold I64 at ha; omega
  have hy : b.natAbs < 18446744073709551616 := by unfold I64 at hb; omega
  have H1 := Lib.hid ha
  have H2 := Lib.hid hb
  have H3 := Lib.hid hx
  have H4 := Lib.hid hy
  clear hx hy ha hb
  go_enter Tryz.func268, Tryz.ntmps268
  go_wp2_with (first
    | (go_at_call 287; refine (SA.out _ (by first | exact H1.out | exact H2.out) _).mono ?_; rintro e w' ⟨rfl, rfl⟩)
    | (go_at_call 286; refine (HM.out _ _ H3.out H4.out _).mono ?_; rintro e w' ⟨rfl, rfl⟩))
  refine bodyPost_ret (v := _) (by simp only [results, Tryz.results268]; go_simp) rfl ⟨rfl, ext_new⟩
theorem compI (x y : Int) : Lib.compareInt x y = cmpI x y := by unfold Lib.compareInt cmpI; repeat' split <;> omega
theorem sign_any (n : Int) (w : World) : Calls Tryz.prog 267 #[.int .i64 n] w fun e w' => e = .returned (.int .i64 n.sign) ∧ w' = w := by
  have HC := Lib.hid (Tryz.cmp_Compare_int n 0)
  rw [compI, cmpI_zero] at HC
  generalize n.sign = s at *
  go_enter Tryz.func267, Tryz.ntmps267
  go_wp2_with (go_at_call 65; refine (HC.out _).mono ?_; rintro e w' ⟨rfl, rfl⟩)
  go_ret
  exact ⟨rfl, rfl⟩
end Go.Proofs.YtompfgofaplffaaGreatDoor

namespace Go.Proofs.YtompfgofaplffaaGreatDoor
open Go.RowKit Hach

theorem isNaNu_any (x : Int) (w : World) : Calls Tryz.prog 295 #[.int .u64 x] w fun e w' => e = .returned (.bool false) ∧ w' = w := by
  go_enter Tryz.func295, Tryz.ntmps295
  go_wp2_with fail
  go_ret
  exact ⟨ret_b (by simp), rfl⟩
theorem cmpU_any (x y : Int) (w : World) : Calls Tryz.prog 288 #[.int .u64 x, .int .u64 y] w fun e w' => e = .returned (.int .i64 (cmpI x y)) ∧ w' = w := by
  have HN := Lib.hid isNaNu_any
  rcases Int.lt_trichotomy x y with h | h | h
  · have HC : Hid (cmpI x y = -1) := Lib.hid (by unfold cmpI; rw [if_pos h])
    have t : decide (x < y) = true := by simpa using h
    clear h
    go_enter Tryz.func288, Tryz.ntmps288
    go_wp2_with (go_at_call 295; refine (HN.out _ _).mono ?_; rintro e w' ⟨rfl, rfl⟩)
    go_ret
    exact ⟨ret_i HC.out.symm, rfl⟩
  · subst h
    have HC : Hid (cmpI x x = 0) := Lib.hid (by unfold cmpI; rw [if_neg (by omega), if_neg (by omega)])
    go_enter Tryz.func288, Tryz.ntmps288
    go_wp2_with (go_at_call 295; refine (HN.out _ _).mono ?_; rintro e w' ⟨rfl, rfl⟩)
    go_ret
    exact ⟨ret_i HC.out.symm, rfl⟩
  · have HC : Hid (cmpI x y = 1) := Lib.hid (by unfold cmpI; rw [if_neg (by omega), if_pos h])
    have t : decide (x < y) = false := by simp; omega
    have t2 : decide (y < x) = true := by simpa using h
    clear h
    go_enter Tryz.func288, Tryz.ntmps288
    go_wp2_with (go_at_call 295; refine (HN.out _ _).mono ?_; rintro e w' ⟨rfl, rfl⟩)
    go_ret
    exact ⟨ret_i HC.out.symm, rfl⟩
theorem pcmp_any (a0 a1 b0 b1 : Int) (w : World) : Calls Tryz.prog 269 #[.agg #[.int .u64 a0, .int .u64 a1], .agg #[.int .u64 b0, .int .u64 b1]] w
    fun e w' => e = .returned (.int .i64 (if cmpI a0 b0 ≠ 0 then cmpI a0 b0 else cmpI a1 b1)) ∧ Ext w w' := by
  have HC := Lib.hid cmpU_any
  by_cases h : cmpI a0 b0 = 0
  · have HR : Hid ((if cmpI a0 b0 ≠ 0 then cmpI a0 b0 else cmpI a1 b1) = cmpI a1 b1) := Lib.hid (if_neg (fun c => c h))
    have t : (cmpI a0 b0 == 0) = true := by simpa using h
    clear h
    generalize (if cmpI a0 b0 ≠ 0 then cmpI a0 b0 else cmpI a1 b1) = R at *
    generalize hx : cmpI a0 b0 = x at t
    generalize hy : cmpI a1 b1 = y at HR
    have HX := Lib.hid hx
    have HY := Lib.hid hy
    clear hx hy
    go_enter Tryz.func269, Tryz.ntmps269
    go_wp2_with (go_at_call 288; refine (HC.out _ _ _).mono ?_; rintro e w' ⟨rfl, rfl⟩; simp only [HX.out, HY.out])
    go_ret
    exact ⟨ret_i HR.out.symm, Ext.trans (Ext.alloc w _) (Ext.alloc _ _)⟩
  · have HR : Hid ((if cmpI a0 b0 ≠ 0 then cmpI a0 b0 else cmpI a1 b1) = cmpI a0 b0) := Lib.hid (if_pos h)
    have t : (cmpI a0 b0 == 0) = false := by simpa using h
    clear h
    generalize (if cmpI a0 b0 ≠ 0 then cmpI a0 b0 else cmpI a1 b1) = R at *
    generalize hx : cmpI a0 b0 = x at t HR
    have HX := Lib.hid hx
    clear hx
    go_enter Tryz.func269, Tryz.ntmps269
    go_wp2_with (go_at_call 288; refine (HC.out _ _ _).mono ?_; rintro e w' ⟨rfl, rfl⟩; simp only [HX.out])
    go_ret
    exact ⟨ret_i HR.out.symm, Ext.trans (Ext.alloc w _) (Ext.alloc _ _)⟩
theorem sgn_mul {a b : Int} : -1 ≤ a.sign * b.sign ∧ a.sign * b.sign ≤ 1 := by
  rw [← Int.sign_mul]
  rcases Int.lt_trichotomy (a * b) 0 with h | h | h
  · rw [Int.sign_eq_neg_one_of_neg h]; decide
  · rw [h]; decide
  · rw [Int.sign_eq_one_of_pos h]; decide
theorem wrap_small {n : Int} (h : -1 ≤ n ∧ n ≤ 1) : wrap64 n = n := by unfold wrap64; omega
theorem cmpI_small {x y : Int} : -1 ≤ cmpI x y ∧ cmpI x y ≤ 1 := by rcases cmpI_three x y with h | h | h <;> rw [h] <;> decide
theorem mul_small {x y : Int} (hx : -1 ≤ x ∧ x ≤ 1) (hy : -1 ≤ y ∧ y ≤ 1) : -1 ≤ x * y ∧ x * y ≤ 1 := by
  have h1 : x = -1 ∨ x = 0 ∨ x = 1 := by omega
  rcases h1 with rfl | rfl | rfl <;> omega
set_option maxRecDepth 100000 in
set_option maxHeartbeats 1000000 in
theorem sign2_any (a b c d : Int) (ha : I64 a) (hb : I64 b) (hc : I64 c) (hd : I64 d) (w : World) :
    Calls Tryz.prog 260 #[.int .i64 a, .int .i64 b, .int .i64 c, .int .i64 d] w fun e w' => e = .returned (.int .i64 (sgI a b c d)) ∧ Ext w w' := by
  have HS := Lib.hid sign_any
  have HT := Lib.hid times_any
  have HP := Lib.hid pcmp_any
  have H1 := Lib.hid ha
  have H2 := Lib.hid hb
  have H3 := Lib.hid hc
  have H4 := Lib.hid hd
  clear ha hb hc hd
  have hs := @sgn_mul a b
  have ht := @sgn_mul c d
  have hl := sg_law a b c d
  have hw : (if cmpI (wH a.natAbs b.natAbs) (wH c.natAbs d.natAbs) ≠ 0 then cmpI (wH a.natAbs b.natAbs) (wH c.natAbs d.natAbs) else cmpI (wL a.natAbs b.natAbs) (wL c.natAbs d.natAbs)) = cmpI ((a.natAbs * b.natAbs : Nat) : Int) ((c.natAbs * d.natAbs : Nat) : Int) := cmp_words (a.natAbs * b.natAbs) (c.natAbs * d.natAbs)
  generalize hG : sgI a b c d = G at *
  generalize hA : a.sign = sa at *
  generalize hB : b.sign = sb at *
  generalize hC : c.sign = sc at *
  generalize hD : d.sign = sd at *
  generalize hp : sa * sb = p at *
  generalize hq : sc * sd = q at *
  have e1 : wrap64 (sa * sb) = p := by rw [hp]; exact wrap_small hs
  have e2 : wrap64 (sc * sd) = q := by rw [hq]; exact wrap_small ht
  have HA := Lib.hid hA
  have HB := Lib.hid hB
  have HC := Lib.hid hC
  have HD := Lib.hid hD
  by_cases h : p = q
  · have t : (p == q) = true := by simpa using h
    rw [if_neg (fun c => c h)] at hl
    have hm := cmpI_small (x := ((a.natAbs * b.natAbs : Nat) : Int)) (y := ((c.natAbs * d.natAbs : Nat) : Int))
    rw [← hw] at hl hm
    generalize hz : (if cmpI (wH a.natAbs b.natAbs) (wH c.natAbs d.natAbs) ≠ 0 then cmpI (wH a.natAbs b.natAbs) (wH c.natAbs d.natAbs) else cmpI (wL a.natAbs b.natAbs) (wL c.natAbs d.natAbs)) = z at *
    have HZ := Lib.hid hz
    have e3 : wrap64 (p * z) = G := by rw [hl]; exact wrap_small (by rw [← hl]; exact mul_small hs hm)
    have hE0 := Ext.refl w
    clear hl hw hz hA hB hC hD hG hp hq h
    go_enter Tryz.func260, Tryz.ntmps260
    go_wp2_with (first
      | (go_at_call 267; refine (HS.out _ _).mono ?_; rintro e w' ⟨rfl, rfl⟩; simp only [HA.out, HB.out, HC.out, HD.out])
      | (go_at_call 268; refine (HT.out _ _ (by first | exact H1.out | exact H3.out) (by first | exact H2.out | exact H4.out) _).mono ?_; rintro e w' ⟨rfl, hE⟩; replace hE0 := Ext.trans hE0 hE; clear hE)
      | (go_at_call 269; refine (HP.out _ _ _ _ _).mono ?_; rintro e w' ⟨rfl, hE⟩; replace hE0 := Ext.trans hE0 hE; clear hE; simp only [HZ.out]))
    go_ret
    exact ⟨ret_i e3, hE0⟩
  · have t : (p == q) = false := by simpa using h
    rw [if_pos h, cmpI_zero] at hl
    have e3 : wrap64 (p - q) = p - q := by unfold wrap64; omega
    have HL := Lib.hid hl
    clear hl hw hA hB hC hD hG hp hq h
    go_enter Tryz.func260, Tryz.ntmps260
    go_wp2_with (go_at_call 267; refine (HS.out _ _).mono ?_; rintro e w' ⟨rfl, rfl⟩; simp only [HA.out, HB.out, HC.out, HD.out])
    go_ret
    exact ⟨ret_i HL.out, Ext.refl _⟩
theorem cells_of {w : World} {b : Nat} {cs : Array Value} {T : TypeId} (h : w.heap[b]? = some (.cells cs T (0, 0))) (i : Nat) (v : Value) (hv : cs[i]? = some v) : w.cell? ⟨b, i, none⟩ = some v := by
  simp [World.cell?, h, hv]
theorem blk_ext {w w' : World} {b : Nat} {o : Obj} (h : w.heap[b]? = some o) (hE : Ext w w') : w'.heap[b]? = some o :=
  (Below.block hE b (Array.getElem?_eq_some_iff.1 h).1).trans h
theorem cell_lt {w : World} {p : Addr} {v : Value} (h : w.cell? p = some v) : p.block < w.heap.size := by
  rcases Nat.lt_or_ge p.block w.heap.size with k | k
  · exact k
  · simp [World.cell?, Array.getElem?_eq_none k] at h
theorem cell_ext {w w' : World} (hE : Ext w w') {p : Addr} {v : Value} (h : w.cell? p = some v) : w'.cell? p = some v := (hE.old (cell_lt h)).trans h
theorem ext_drewN (w : World) (q : Nat) : Ext w (w.drewN q) := ⟨rfl, rfl, rfl, Nat.le_refl _, fun _ _ => rfl⟩
theorem cmpI_eq {x y : Int} : cmpI x y = 0 ↔ x = y := by
  unfold cmpI
  repeat' split
  all_goals omega
end Go.Proofs.YtompfgofaplffaaGreatDoor

namespace Go.Proofs.YtompfgofaplffaaGreatDoor
open Go.RowKit Hach

theorem exa {w W : World} {o : Obj} (h : Ext w W) : Ext w (W.alloc o) := Ext.trans h (Ext.alloc W o)
/-- A point that lies in a block. -/
def PtIn (W : World) (g : Nat) (p : Pt) : Prop := W.cell? ⟨g, 0, none⟩ = some (.int .i64 p.x) ∧ W.cell? ⟨g, 1, none⟩ = some (.int .i64 p.y)
theorem PtIn.ext {w w' : World} {g : Nat} {p : Pt} (h : PtIn w g p) (hE : Ext w w') : PtIn w' g p := ⟨cell_ext hE h.1, cell_ext hE h.2⟩
theorem PtIn.new (w : World) (p : Pt) : PtIn (w.alloc (.cells #[.int .i64 p.x, .int .i64 p.y] 73)) w.heap.size p :=
  ⟨cells_of (Go.heap_alloc_new _ _) 0 _ rfl, cells_of (Go.heap_alloc_new _ _) 1 _ rfl⟩
theorem box3 (w : World) (a b p : Pt) : ∃ w3, (((w.alloc (.cells #[.int .i64 a.x, .int .i64 a.y] 73)).alloc (.cells #[.int .i64 b.x, .int .i64 b.y] 73)).alloc (.cells #[.int .i64 p.x, .int .i64 p.y] 73)) = w3 ∧ Ext w w3 ∧ PtIn w3 w.heap.size a ∧ PtIn w3 (w.heap.size + 1) b ∧ PtIn w3 (w.heap.size + 1 + 1) p ∧ w3.heap.size = w.heap.size + 1 + 1 + 1 := by
  refine ⟨_, rfl, exa (exa (exa (Ext.refl w))), ((PtIn.new w a).ext (Ext.alloc _ _)).ext (Ext.alloc _ _), ?_, ?_, by simp⟩
  · have := (PtIn.new (w.alloc (.cells #[.int .i64 a.x, .int .i64 a.y] 73)) b).ext (Ext.alloc _ (.cells #[.int .i64 p.x, .int .i64 p.y] 73))
    simpa using this
  · have := PtIn.new ((w.alloc (.cells #[.int .i64 a.x, .int .i64 a.y] 73)).alloc (.cells #[.int .i64 b.x, .int .i64 b.y] 73)) p
    simpa using this
theorem bnd_iff (p : Pt) : bnd p = true ↔ (-1152921504606846976 ≤ p.x ∧ p.x ≤ 1152921504606846976) ∧ -1152921504606846976 ≤ p.y ∧ p.y ≤ 1152921504606846976 := by simp [bnd]
theorem side_not {a b p : Pt} (h : bnd a = false ∨ bnd b = false ∨ bnd p = false) : side a b p = 0 := by
  unfold side
  rcases h with h | h | h <;> rw [h] <;> simp
end Go.Proofs.YtompfgofaplffaaGreatDoor

namespace Go.Proofs.YtompfgofaplffaaGreatDoor
open Go.RowKit Hach

theorem box3g (w : World) (A B C : Array Value) (T : TypeId) : ∃ w3, (((w.alloc (.cells A T)).alloc (.cells B T)).alloc (.cells C T)) = w3 ∧ Ext w w3 ∧
    ∀ W, Ext w3 W → (∀ i v, A[i]? = some v → W.cell? ⟨w.heap.size, i, none⟩ = some v) ∧ (∀ i v, B[i]? = some v → W.cell? ⟨w.heap.size + 1, i, none⟩ = some v) ∧ (∀ i v, C[i]? = some v → W.cell? ⟨w.heap.size + 1 + 1, i, none⟩ = some v) := by
  refine ⟨_, rfl, exa (exa (exa (Ext.refl w))), fun W h => ⟨fun i v hv => ?_, fun i v hv => ?_, fun i v hv => ?_⟩⟩
  · exact cell_ext h (cell_ext (exa (exa (Ext.refl _))) (cells_of (Go.heap_alloc_new w (.cells A T)) i v hv))
  · have := cell_ext (exa (Ext.refl _)) (cells_of (Go.heap_alloc_new (w.alloc (.cells A T)) (.cells B T)) i v hv) (w' := ((w.alloc (.cells A T)).alloc (.cells B T)).alloc (.cells C T))
    have := cell_ext h this
    simpa using this
  · have := cell_ext h (cells_of (Go.heap_alloc_new ((w.alloc (.cells A T)).alloc (.cells B T)) (.cells C T)) i v hv)
    simpa using this
theorem bd37_iff (p : Pt) : bd37 p = true ↔ (-137438953472 ≤ p.x ∧ p.x ≤ 137438953472) ∧ -137438953472 ≤ p.y ∧ p.y ≤ 137438953472 := by simp [bd37]
theorem sside_not {a b p : Pt} (h : bd37 a = false ∨ bd37 b = false ∨ bd37 p = false) : sside a b p = 0 := by
  unfold sside
  rcases h with h | h | h <;> rw [h] <;> simp
def spv (p : Pt) : Array Value := #[.int .i64 p.x, .int .i64 p.y, .int .i64 1]
end Go.Proofs.YtompfgofaplffaaGreatDoor

namespace Go.Proofs.YtompfgofaplffaaGreatDoor
open Go.RowKit Hach

theorem blk_free {w : World} {b : Nat} {cs : Array Value} {T : TypeId} (h : w.heap[b]? = some (.cells cs T (0, 0))) (i : Nat) : w.frozen? ⟨b, i, none⟩ = false := by simp [World.frozen?, h]
/-- Blocks that are laid one after the other. -/
def allocs (w : World) : List Obj → World
  | [] => w
  | o :: l => allocs (w.alloc o) l
theorem allocs_ext : ∀ (l : List Obj) (w : World), Ext w (allocs w l)
  | [], w => Ext.refl w
  | o :: l, w => Ext.trans (Ext.alloc w o) (allocs_ext l (w.alloc o))
theorem allocs_get : ∀ (l : List Obj) (w : World) (i : Nat) (o : Obj), l[i]? = some o → (allocs w l).heap[w.heap.size + i]? = some o
  | [], _, i, o, h => by simp at h
  | x :: l, w, 0, o, h => by
    have e : x = o := by simpa using h
    subst e
    exact blk_ext (Go.heap_alloc_new w x) (allocs_ext l (w.alloc x))
  | x :: l, w, i + 1, o, h => by
    have := allocs_get l (w.alloc x) i o (by simpa using h)
    have e : (w.alloc x).heap.size = w.heap.size + 1 := by simp
    rw [e] at this
    rw [show w.heap.size + (i + 1) = w.heap.size + 1 + i by omega]
    exact this
theorem boxes (w : World) (l : List Obj) : ∃ w3, allocs w l = w3 ∧ Ext w w3 ∧ ∀ W, Ext w3 W → ∀ (i : Nat) (o : Obj), l[i]? = some o → W.heap[w.heap.size + i]? = some o :=
  ⟨_, rfl, allocs_ext l w, fun _ h i o e => blk_ext (allocs_get l w i o e) h⟩
theorem exs {w W : World} {b i : Nat} {v : Value} (h : Ext w W) (hb : w.heap.size ≤ b) : Ext w (W.setCell ⟨b, i, none⟩ v) := Below.setCell (p := ⟨b, i, none⟩) h hb v
theorem exd {w W : World} (h : Ext w W) : Ext w W.drew := Ext.trans h (Ext.drew W)
/-- Three points, each in a block. -/
theorem pts3 (w : World) (a b p : Pt) : ∃ w3, (((w.alloc (.cells #[.int .i64 a.x, .int .i64 a.y] 73)).alloc (.cells #[.int .i64 b.x, .int .i64 b.y] 73)).alloc (.cells #[.int .i64 p.x, .int .i64 p.y] 73)) = w3 ∧ Ext w w3 ∧
    ∀ W, Ext w3 W → W.cell? ⟨w.heap.size, 0, none⟩ = some (.int .i64 a.x) ∧ W.cell? ⟨w.heap.size, 1, none⟩ = some (.int .i64 a.y) ∧ W.cell? ⟨w.heap.size + 1, 0, none⟩ = some (.int .i64 b.x) ∧ W.cell? ⟨w.heap.size + 1, 1, none⟩ = some (.int .i64 b.y) ∧
      W.cell? ⟨w.heap.size + 1 + 1, 0, none⟩ = some (.int .i64 p.x) ∧ W.cell? ⟨w.heap.size + 1 + 1, 1, none⟩ = some (.int .i64 p.y) := by
  obtain ⟨w3, hw, hE0, hC⟩ := box3g w #[.int .i64 a.x, .int .i64 a.y] #[.int .i64 b.x, .int .i64 b.y] #[.int .i64 p.x, .int .i64 p.y] 73
  exact ⟨w3, hw, hE0, fun W h => ⟨(hC W h).1 0 _ rfl, (hC W h).1 1 _ rfl, (hC W h).2.1 0 _ rfl, (hC W h).2.1 1 _ rfl, (hC W h).2.2 0 _ rfl, (hC W h).2.2 1 _ rfl⟩⟩
theorem on_not {a b p : Pt} (h : bnd a = false ∨ bnd b = false ∨ bnd p = false) : on a b p = false := by
  unfold on
  rcases h with h | h | h <;> rw [h] <;> simp
end Go.Proofs.YtompfgofaplffaaGreatDoor
