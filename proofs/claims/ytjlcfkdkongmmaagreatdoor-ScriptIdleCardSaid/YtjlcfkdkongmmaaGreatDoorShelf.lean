/-
 Contracts of the library that this program calls, by its own numbers: which of the shelf they are.
-/
import Derived.Shelf.Strings.Builder1
import Derived.Shelf.Strings.Builder2
import Derived.Shelf.Strings.OnBuilder
import Derived.Shelf.Strings.Trim
import Derived.Shelf.Small.Utf8
import Derived.Shelf.Small.Bits
import Derived.Shelf.Small.Strs
import Derived.Shelf.Small.Wraps
import Derived.Shelf.Strings.BuilderF
import Derived.Shelf.Strings.BuilderK
import Derived.Shelf.Utf8.RuneCount
import Derived.Shelf.Strings.Builder2Cap
import Derived.Shelf.Strconv.Itoa0
import Derived.Shelf.Strconv.Itoa1
import Derived.Shelf.LaysM
import Derived.Shelf.Strconv.Itoa2
import Derived.Shelf.Strconv.Itoa3
import Derived.Shelf.Strconv.Itoa4
import Derived.Shelf.Strconv.ParseIntEmpty
import Derived.Shelf.Strconv.Clone
import Derived.Shelf.Strconv.SyntaxError
import Derived.Shelf.LaysC
import Derived.Shelf.Strconv.ToError
import Derived.Shelf.Strconv.Lower
import Derived.Shelf.Strconv.ParseUint10
import Derived.Shelf.Strconv.ParseUint10Empty
import Derived.Shelf.Strconv.ParseUint10Any
import Derived.Shelf.Strconv.ParseInt10
import Derived.Shelf.Strconv.RangeError
import Derived.Shelf.Strconv.ToErrorRange
import Derived.Shelf.Strconv.ParseUintEmpty
import Derived.Shelf.Strconv.ParseUint10b64
import Derived.Shelf.Strconv.ParseUint10b32
import Derived.Shelf.Strconv.ParseUint10b16
import Derived.Shelf.Strconv.ParseUint10b8
import Derived.Shelf.Strconv.ParseUint10At
import Derived.Shelf.Strconv.ParseInt10At64
import Derived.Shelf.Strconv.ParseInt10At32
import Derived.Shelf.Strconv.ParseInt10At16
import Derived.Shelf.Strconv.ParseInt10At8
import Derived.Shelf.Strconv.ParseInt10All
import Derived.Shelf.Strconv.ParseIntPublic10
import Derived.Shelf.Strconv.ErrVarParseInt
import Derived.Shelf.Strings.Search1
import Derived.Shelf.Strings.Search2
import Derived.Shelf.Strings.Search3
import Derived.Shelf.Strings.Count
import Derived.Shelf.Strings.Shaped
import Derived.Shelf.Sort.Plain
import Derived.Shelf.Strings.Prefix
import Derived.Shelf.Strings.Split
import Derived.Shelf.Strings.SplitShaped
import Derived.Shelf.Unicode.Decode
import Derived.Shelf.Strings.Runes
import Derived.Shelf.Strings.RuneCount
import Derived.Shelf.Strings.AsciiSet
import Derived.Shelf.Strings.Explode
import Derived.Shelf.Unicode.DecodeSlow
import Derived.Shelf.Unicode.DecodeAny
import Derived.Shelf.Unicode.DecodeLast
import Derived.Shelf.Strings.BuilderCap
import Derived.Shelf.Slices.Turned
import Derived.Shelf.Slices.Equal
import Derived.Ground.Names2Prog
import Derived.Shelf.Slices.Clone
import Derived.Shelf.Slices.CompactI
import Derived.Shelf.Slices.SearchI
import Derived.Shelf.Slices.Cells
import Derived.Shelf.Slices.In.SortNone
import Derived.Shelf.Slices.Empties2
import Derived.Ground.SlgnProg
import Derived.Shelf.SlicesG.SearchI
import Derived.Shelf.SlicesE.Clone
import Derived.Ground.SlgcProg
import Derived.Shelf.SlicesG.Cmp
import Derived.Test.YtjlcfkdkongmmaaGreatDoorProg
namespace Go.Proofs
open Go.Shelf
def Tryz.lays169_ren : Go.Shelf.Ren := ⟨fun | 169 => 36 | n => n, fun | 70 => 88 | 9 => 9 | 0 => 0 | 72 => 90 | 37 => 22 | 127 => 138 | 3 => 3 | 5 => 5 | n => n, fun | n => n⟩
theorem Tryz.lays169 : Go.Proofs.Lays.n169 Tryz.prog Tryz.lays169_ren := {
 mixed := by kernel_rfl
 f169 := Tryz.func36.trans (congrArg some (by kernel_rfl))
 t0 := Tryz.underlying0
 a0 := Tryz.isAgg0
 z0 := Tryz.sizeOf0
 v0 := Tryz.zeroValue0
 t3 := Tryz.underlying3
 a3 := Tryz.isAgg3
 z3 := Tryz.sizeOf3
 v3 := Tryz.zeroValue3
 t9 := Tryz.underlying9
 a9 := Tryz.isAgg9
 z9 := Tryz.sizeOf9
 v9 := Tryz.zeroValue9
 t37 := Tryz.underlying22
 a37 := Tryz.isAgg22
 z37 := Tryz.sizeOf22
 v37 := Tryz.zeroValue22
 t70 := Tryz.underlying88
 a70 := Tryz.isAgg88
 z70 := Tryz.sizeOf88
 v70 := Tryz.zeroValue88
 t72 := Tryz.underlying90
 a72 := Tryz.isAgg90
 z72 := Tryz.sizeOf90
 v72 := Tryz.zeroValue90
 t127 := Tryz.underlying138
 a127 := Tryz.isAgg138
 z127 := Tryz.sizeOf138
 v127 := Tryz.zeroValue138 }
theorem Tryz.Builder_Extra_169 : Builder.Extra Tryz.prog Tryz.lays169_ren := {
 sizeBuilder := by kernel_rfl
 liesBuilder := by kernel_rfl
 t5 := Tryz.underlying5
 a5 := Tryz.isAgg5
 z5 := Tryz.sizeOf5
 v5 := Tryz.zeroValue5
 infoByte := by kernel_rfl
 cellsByte := by kernel_rfl
 sizeByte := by kernel_rfl
 neB5 := by decide }
def Tryz.lays156_ren : Go.Shelf.Ren := ⟨fun | 156 => 65 | 165 => 110 | 166 => 34 | 169 => 36 | 240 => 70 | 241 => 147 | 276 => 116 | 277 => 193 | n => n, fun | 31 => 122 | 9 => 9 | 3 => 3 | 4 => 4 | 0 => 0 | 20 => 20 | 72 => 90 | 76 => 93 | 70 => 88 | 37 => 22 | 75 => 92 | 127 => 138 | 164 => 203 | 5 => 5 | 80 => 96 | n => n, fun | n => n⟩
theorem Tryz.lays156 : Go.Proofs.Lays.n156 Tryz.prog Tryz.lays156_ren := {
 mixed := by kernel_rfl
 f156 := Tryz.func65.trans (congrArg some (by kernel_rfl))
 f165 := Tryz.func110.trans (congrArg some (by kernel_rfl))
 f166 := Tryz.func34.trans (congrArg some (by kernel_rfl))
 f169 := Tryz.func36.trans (congrArg some (by kernel_rfl))
 f240 := Tryz.func70.trans (congrArg some (by kernel_rfl))
 f241 := Tryz.func147.trans (congrArg some (by kernel_rfl))
 f276 := Tryz.func116.trans (congrArg some (by kernel_rfl))
 f277 := Tryz.func193.trans (congrArg some (by kernel_rfl))
 t0 := Tryz.underlying0
 a0 := Tryz.isAgg0
 z0 := Tryz.sizeOf0
 v0 := Tryz.zeroValue0
 t3 := Tryz.underlying3
 a3 := Tryz.isAgg3
 z3 := Tryz.sizeOf3
 v3 := Tryz.zeroValue3
 t4 := Tryz.underlying4
 a4 := Tryz.isAgg4
 z4 := Tryz.sizeOf4
 v4 := Tryz.zeroValue4
 t9 := Tryz.underlying9
 a9 := Tryz.isAgg9
 z9 := Tryz.sizeOf9
 v9 := Tryz.zeroValue9
 t20 := Tryz.underlying20
 a20 := Tryz.isAgg20
 z20 := Tryz.sizeOf20
 v20 := Tryz.zeroValue20
 t31 := Tryz.underlying122
 a31 := Tryz.isAgg122
 z31 := Tryz.sizeOf122
 v31 := Tryz.zeroValue122
 t37 := Tryz.underlying22
 a37 := Tryz.isAgg22
 z37 := Tryz.sizeOf22
 v37 := Tryz.zeroValue22
 t70 := Tryz.underlying88
 a70 := Tryz.isAgg88
 z70 := Tryz.sizeOf88
 v70 := Tryz.zeroValue88
 t72 := Tryz.underlying90
 a72 := Tryz.isAgg90
 z72 := Tryz.sizeOf90
 v72 := Tryz.zeroValue90
 t75 := Tryz.underlying92
 a75 := Tryz.isAgg92
 z75 := Tryz.sizeOf92
 v75 := Tryz.zeroValue92
 t76 := Tryz.underlying93
 a76 := Tryz.isAgg93
 z76 := Tryz.sizeOf93
 v76 := Tryz.zeroValue93
 t127 := Tryz.underlying138
 a127 := Tryz.isAgg138
 z127 := Tryz.sizeOf138
 v127 := Tryz.zeroValue138
 t164 := Tryz.underlying203
 a164 := Tryz.isAgg203
 z164 := Tryz.sizeOf203
 v164 := Tryz.zeroValue203 }
theorem Tryz.Builder_Extra_156 : Builder.Extra Tryz.prog Tryz.lays156_ren := {
 sizeBuilder := by kernel_rfl
 liesBuilder := by kernel_rfl
 t5 := Tryz.underlying5
 a5 := Tryz.isAgg5
 z5 := Tryz.sizeOf5
 v5 := Tryz.zeroValue5
 infoByte := by kernel_rfl
 cellsByte := by kernel_rfl
 sizeByte := by kernel_rfl
 neB5 := by decide }
open Go.RowKit in
theorem Tryz.strings_Join_none (a : Option Addr) (c : Nat) (sep : ByteArray) (w : World) :
 Calls Tryz.prog 65 #[.slice a 0 c, .string sep] w fun e w' => e = .returned (.string ⟨#[]⟩) ∧ w' = w := Any.strings_Join_none Tryz.lays156 Tryz.Builder_Extra_156 a c sep w
open Go.RowKit in
theorem Tryz.strings_Join (bk o c : Nat) (xs : List ByteArray) (sep : ByteArray) (w : World) (hcells : ∀ (j : Nat) x, xs[j]? = some x → w.cell? ⟨bk, o + j, none⟩ = some (.string x)) (hbk : bk < w.heap.size) (hN : xs.length ≤ 140737488355328) (hcap : xs.length ≤ c) (hlen : (Lib.join (xs.map (·.data.toList)) sep.data.toList).length ≤ 140737488355328) :
 Calls Tryz.prog 65 #[.slice (some ⟨bk, o, none⟩) xs.length c, .string sep] w fun e w' => e = .returned (.string ⟨(Lib.join (xs.map (·.data.toList)) sep.data.toList).toArray⟩) ∧ Below w.heap.size w w' := Any.strings_Join Tryz.lays156 Tryz.Builder_Extra_156 bk o c xs sep w hcells hbk hN hcap hlen
def Tryz.lays160_ren : Go.Shelf.Ren := ⟨fun | 160 => 144 | 232 => 181 | 231 => 180 | 227 => 182 | 234 => 184 | 233 => 183 | 236 => 186 | 235 => 185 | 228 => 223 | 271 => 225 | 151 => 224 | 197 => 219 | 120 => 249 | 152 => 248 | 260 => 243 | 137 => 260 | 119 => 261 | 224 => 246 | 225 => 245 | 217 => 244 | 266 => 258 | n => n, fun | 9 => 9 | 4 => 4 | 3 => 3 | 5 => 5 | 117 => 271 | 116 => 270 | 0 => 0 | 124 => 274 | 21 => 21 | 105 => 303 | 46 => 251 | 119 => 333 | 139 => 336 | 138 => 335 | n => n, fun | 3 => 4 | 4 => 5 | n => n⟩
theorem Tryz.lays160 : Go.Proofs.Lays.n160 Tryz.prog Tryz.lays160_ren := {
 mixed := by kernel_rfl
 f119 := Tryz.func261.trans (congrArg some (by kernel_rfl))
 f120 := Tryz.func249.trans (congrArg some (by kernel_rfl))
 f137 := Tryz.func260.trans (congrArg some (by kernel_rfl))
 f151 := Tryz.func224.trans (congrArg some (by kernel_rfl))
 f152 := Tryz.func248.trans (congrArg some (by kernel_rfl))
 f160 := Tryz.func144.trans (congrArg some (by kernel_rfl))
 f197 := Tryz.func219.trans (congrArg some (by kernel_rfl))
 f217 := Tryz.func244.trans (congrArg some (by kernel_rfl))
 f224 := Tryz.func246.trans (congrArg some (by kernel_rfl))
 f225 := Tryz.func245.trans (congrArg some (by kernel_rfl))
 f227 := Tryz.func182.trans (congrArg some (by kernel_rfl))
 f228 := Tryz.func223.trans (congrArg some (by kernel_rfl))
 f231 := Tryz.func180.trans (congrArg some (by kernel_rfl))
 f232 := Tryz.func181.trans (congrArg some (by kernel_rfl))
 f233 := Tryz.func183.trans (congrArg some (by kernel_rfl))
 f234 := Tryz.func184.trans (congrArg some (by kernel_rfl))
 f235 := Tryz.func185.trans (congrArg some (by kernel_rfl))
 f236 := Tryz.func186.trans (congrArg some (by kernel_rfl))
 f260 := Tryz.func243.trans (congrArg some (by kernel_rfl))
 f266 := Tryz.func258.trans (congrArg some (by kernel_rfl))
 f271 := Tryz.func225.trans (congrArg some (by kernel_rfl))
 t0 := Tryz.underlying0
 a0 := Tryz.isAgg0
 z0 := Tryz.sizeOf0
 v0 := Tryz.zeroValue0
 t3 := Tryz.underlying3
 a3 := Tryz.isAgg3
 z3 := Tryz.sizeOf3
 v3 := Tryz.zeroValue3
 t4 := Tryz.underlying4
 a4 := Tryz.isAgg4
 z4 := Tryz.sizeOf4
 v4 := Tryz.zeroValue4
 t5 := Tryz.underlying5
 a5 := Tryz.isAgg5
 z5 := Tryz.sizeOf5
 v5 := Tryz.zeroValue5
 t9 := Tryz.underlying9
 a9 := Tryz.isAgg9
 z9 := Tryz.sizeOf9
 v9 := Tryz.zeroValue9
 t21 := Tryz.underlying21
 a21 := Tryz.isAgg21
 z21 := Tryz.sizeOf21
 v21 := Tryz.zeroValue21
 t46 := Tryz.underlying251
 a46 := Tryz.isAgg251
 z46 := Tryz.sizeOf251
 v46 := Tryz.zeroValue251
 t105 := Tryz.underlying303
 a105 := Tryz.isAgg303
 z105 := Tryz.sizeOf303
 v105 := Tryz.zeroValue303
 t116 := Tryz.underlying270
 a116 := Tryz.isAgg270
 z116 := Tryz.sizeOf270
 t117 := Tryz.underlying271
 a117 := Tryz.isAgg271
 z117 := Tryz.sizeOf271
 v117 := Tryz.zeroValue271
 t119 := Tryz.underlying333
 a119 := Tryz.isAgg333
 z119 := Tryz.sizeOf333
 t124 := Tryz.underlying274
 a124 := Tryz.isAgg274
 z124 := Tryz.sizeOf274
 v124 := Tryz.zeroValue274
 t138 := Tryz.underlying335
 a138 := Tryz.isAgg335
 z138 := Tryz.sizeOf335
 v138 := Tryz.zeroValue335
 t139 := Tryz.underlying336
 a139 := Tryz.isAgg336
 z139 := Tryz.sizeOf336
 v139 := Tryz.zeroValue336
 g3 := by kernel_rfl
 g4 := by kernel_rfl }
def Tryz.lays104_ren : Go.Shelf.Ren := ⟨fun | 104 => 103 | 211 => 141 | 207 => 175 | n => n, fun | 9 => 9 | 4 => 4 | 24 => 191 | 3 => 3 | n => n, fun | n => n⟩
theorem Tryz.lays104 : Go.Proofs.Lays.n104 Tryz.prog Tryz.lays104_ren := {
 mixed := by kernel_rfl
 f104 := Tryz.func103.trans (congrArg some (by kernel_rfl))
 f207 := Tryz.func175.trans (congrArg some (by kernel_rfl))
 f211 := Tryz.func141.trans (congrArg some (by kernel_rfl))
 t3 := Tryz.underlying3
 a3 := Tryz.isAgg3
 z3 := Tryz.sizeOf3
 v3 := Tryz.zeroValue3
 t4 := Tryz.underlying4
 a4 := Tryz.isAgg4
 z4 := Tryz.sizeOf4
 v4 := Tryz.zeroValue4
 t9 := Tryz.underlying9
 a9 := Tryz.isAgg9
 z9 := Tryz.sizeOf9
 v9 := Tryz.zeroValue9
 t24 := Tryz.underlying191
 a24 := Tryz.isAgg191
 z24 := Tryz.sizeOf191
 v24 := Tryz.zeroValue191 }
open Go.RowKit in
theorem Tryz.strings_CutSuffix (s p : ByteArray) (w : World) (hs : s.size ≤ 9223372036854775807) :
 Calls Tryz.prog 103 #[.string s, .string p] w fun e w' => e = .returned (.tuple #[.string ⟨(Lib.trimSuffix s.data.toList p.data.toList).toArray⟩, .bool (Lib.hasSuffix s.data.toList p.data.toList)]) ∧ w' = w := Any.strings_CutSuffix Tryz.lays104 s p w hs
def Tryz.laysM173_ren : Go.Shelf.Ren := ⟨fun | 173 => 109 | 246 => 146 | 283 => 189 | 284 => 190 | 285 => 191 | 286 => 192 | 129 => 210 | 317 => 231 | 318 => 232 | 319 => 233 | 320 => 234 | 337 => 255 | 338 => 256 | n => n, fun | 2 => 2 | 3 => 3 | 9 => 9 | 4 => 4 | 171 => 277 | 0 => 0 | 53 => 278 | 37 => 22 | 5 => 5 | 173 => 281 | 212 => 315 | 51 => 298 | 20 => 20 | 213 => 316 | 46 => 251 | 232 => 343 | 233 => 344 | n => n, fun | 17 => 0 | 18 => 6 | 19 => 7 | n => n⟩
theorem Tryz.laysM173 : Go.Proofs.LaysM.n173 Tryz.prog Tryz.laysM173_ren := {
 mixed := by kernel_rfl
 f129 := Tryz.func210.trans (congrArg some (by kernel_rfl))
 f173 := Tryz.func109.trans (congrArg some (by kernel_rfl))
 f246 := Tryz.func146.trans (congrArg some (by kernel_rfl))
 f283 := Tryz.func189.trans (congrArg some (by kernel_rfl))
 f284 := Tryz.func190.trans (congrArg some (by kernel_rfl))
 f285 := Tryz.func191.trans (congrArg some (by kernel_rfl))
 f286 := Tryz.func192.trans (congrArg some (by kernel_rfl))
 f317 := Tryz.func231.trans (congrArg some (by kernel_rfl))
 f318 := Tryz.func232.trans (congrArg some (by kernel_rfl))
 f319 := Tryz.func233.trans (congrArg some (by kernel_rfl))
 f320 := Tryz.func234.trans (congrArg some (by kernel_rfl))
 f337 := Tryz.func255.trans (congrArg some (by kernel_rfl))
 f338 := Tryz.func256.trans (congrArg some (by kernel_rfl))
 t0 := Tryz.underlying0
 a0 := Tryz.isAgg0
 z0 := Tryz.sizeOf0
 v0 := Tryz.zeroValue0
 t2 := Tryz.underlying2
 a2 := Tryz.isAgg2
 z2 := Tryz.sizeOf2
 v2 := Tryz.zeroValue2
 t3 := Tryz.underlying3
 a3 := Tryz.isAgg3
 z3 := Tryz.sizeOf3
 v3 := Tryz.zeroValue3
 t4 := Tryz.underlying4
 a4 := Tryz.isAgg4
 z4 := Tryz.sizeOf4
 v4 := Tryz.zeroValue4
 t5 := Tryz.underlying5
 a5 := Tryz.isAgg5
 z5 := Tryz.sizeOf5
 v5 := Tryz.zeroValue5
 t9 := Tryz.underlying9
 a9 := Tryz.isAgg9
 z9 := Tryz.sizeOf9
 v9 := Tryz.zeroValue9
 t20 := Tryz.underlying20
 a20 := Tryz.isAgg20
 z20 := Tryz.sizeOf20
 v20 := Tryz.zeroValue20
 t37 := Tryz.underlying22
 a37 := Tryz.isAgg22
 z37 := Tryz.sizeOf22
 v37 := Tryz.zeroValue22
 t46 := Tryz.underlying251
 a46 := Tryz.isAgg251
 z46 := Tryz.sizeOf251
 v46 := Tryz.zeroValue251
 t51 := Tryz.underlying298
 a51 := Tryz.isAgg298
 z51 := Tryz.sizeOf298
 v51 := Tryz.zeroValue298
 t53 := Tryz.underlying278
 a53 := Tryz.isAgg278
 z53 := Tryz.sizeOf278
 v53 := Tryz.zeroValue278
 t171 := Tryz.underlying277
 a171 := Tryz.isAgg277
 z171 := Tryz.sizeOf277
 v171 := Tryz.zeroValue277
 t173 := Tryz.underlying281
 a173 := Tryz.isAgg281
 z173 := Tryz.sizeOf281
 v173 := Tryz.zeroValue281
 t212 := Tryz.underlying315
 a212 := Tryz.isAgg315
 z212 := Tryz.sizeOf315
 v212 := Tryz.zeroValue315
 t213 := Tryz.underlying316
 a213 := Tryz.isAgg316
 z213 := Tryz.sizeOf316
 t232 := Tryz.underlying343
 a232 := Tryz.isAgg343
 z232 := Tryz.sizeOf343
 v232 := Tryz.zeroValue343
 t233 := Tryz.underlying344
 a233 := Tryz.isAgg344
 z233 := Tryz.sizeOf344
 v233 := Tryz.zeroValue344
 g17 := by kernel_rfl
 g18 := by kernel_rfl
 g19 := by kernel_rfl
 i0 := by kernel_rfl
 i2 := by kernel_rfl
 i3 := by kernel_rfl
 i4 := by kernel_rfl
 i5 := by kernel_rfl
 i9 := by kernel_rfl
 i20 := by kernel_rfl
 i37 := by kernel_rfl
 i46 := by kernel_rfl
 i51 := by kernel_rfl
 i53 := by kernel_rfl
 i171 := by kernel_rfl
 i173 := by kernel_rfl
 i212 := by kernel_rfl
 i232 := by kernel_rfl
 i233 := by kernel_rfl
 m17 := by kernel_rfl
 m18 := by kernel_rfl
 m19 := by kernel_rfl }
open Go.RowKit Go.Sort Go.Lib in
theorem Tryz.strconv_FormatInt_10 (n : Int) (h0 : -9223372036854775808 ≤ n) (h1 : n ≤ 9223372036854775807) (w : World) (htab : Lib.TabIs Tryz.prog w "internal/strconv.uint64pow10" .u64 Lib.pow10Tab) :
 Calls Tryz.prog 109 #[.int .i64 n, .int .i64 10] w fun e w' => e = .returned (.string ⟨(Lib.itoa n).toArray⟩) ∧ ∃ k os, w' = grow (w.drewN k) os := Any.strconv_FormatInt_10 Tryz.laysM173 n h0 h1 w htab
def Tryz.laysC174_ren : Go.Shelf.Ren := ⟨fun | 174 => 145 | 247 => 187 | 245 => 188 | 287 => 226 | 279 => 227 | 280 => 228 | 281 => 229 | 282 => 230 | 321 => 250 | 322 => 251 | 316 => 252 | 171 => 254 | 205 => 253 | 243 => 262 | 246 => 146 | 283 => 189 | 284 => 190 | 285 => 191 | 286 => 192 | 129 => 210 | 317 => 231 | 318 => 232 | 319 => 233 | 320 => 234 | 337 => 255 | 338 => 256 | n => n, fun | 9 => 9 | 3 => 3 | 2 => 2 | 75 => 92 | 85 => 235 | 4 => 4 | 167 => 308 | 5 => 5 | 53 => 278 | 175 => 309 | 46 => 251 | 168 => 311 | 37 => 22 | 0 => 0 | 210 => 328 | 21 => 21 | 127 => 138 | 145 => 342 | 143 => 340 | 171 => 277 | 173 => 281 | 212 => 315 | 51 => 298 | 20 => 20 | 213 => 316 | 232 => 343 | 233 => 344 | 80 => 96 | n => n, fun | 15 => 2 | 16 => 3 | 17 => 0 | 18 => 6 | 19 => 7 | n => n⟩
theorem Tryz.laysC174 : Go.Proofs.LaysC.n174 Tryz.prog Tryz.laysC174_ren := {
 mixed := by kernel_rfl
 f129 := Tryz.func210.trans (congrArg some (by kernel_rfl))
 f171 := Tryz.func254.trans (congrArg some (by kernel_rfl))
 f174 := Tryz.func145.trans (congrArg some (by kernel_rfl))
 f205 := Tryz.func253.trans (congrArg some (by kernel_rfl))
 f243 := Tryz.func262.trans (congrArg some (by kernel_rfl))
 f245 := Tryz.func188.trans (congrArg some (by kernel_rfl))
 f246 := Tryz.func146.trans (congrArg some (by kernel_rfl))
 f247 := Tryz.func187.trans (congrArg some (by kernel_rfl))
 f279 := Tryz.func227.trans (congrArg some (by kernel_rfl))
 f280 := Tryz.func228.trans (congrArg some (by kernel_rfl))
 f281 := Tryz.func229.trans (congrArg some (by kernel_rfl))
 f282 := Tryz.func230.trans (congrArg some (by kernel_rfl))
 f283 := Tryz.func189.trans (congrArg some (by kernel_rfl))
 f284 := Tryz.func190.trans (congrArg some (by kernel_rfl))
 f285 := Tryz.func191.trans (congrArg some (by kernel_rfl))
 f286 := Tryz.func192.trans (congrArg some (by kernel_rfl))
 f287 := Tryz.func226.trans (congrArg some (by kernel_rfl))
 f316 := Tryz.func252.trans (congrArg some (by kernel_rfl))
 f317 := Tryz.func231.trans (congrArg some (by kernel_rfl))
 f318 := Tryz.func232.trans (congrArg some (by kernel_rfl))
 f319 := Tryz.func233.trans (congrArg some (by kernel_rfl))
 f320 := Tryz.func234.trans (congrArg some (by kernel_rfl))
 f321 := Tryz.func250.trans (congrArg some (by kernel_rfl))
 f322 := Tryz.func251.trans (congrArg some (by kernel_rfl))
 f337 := Tryz.func255.trans (congrArg some (by kernel_rfl))
 f338 := Tryz.func256.trans (congrArg some (by kernel_rfl))
 t0 := Tryz.underlying0
 a0 := Tryz.isAgg0
 z0 := Tryz.sizeOf0
 v0 := Tryz.zeroValue0
 t2 := Tryz.underlying2
 a2 := Tryz.isAgg2
 z2 := Tryz.sizeOf2
 v2 := Tryz.zeroValue2
 t3 := Tryz.underlying3
 a3 := Tryz.isAgg3
 z3 := Tryz.sizeOf3
 v3 := Tryz.zeroValue3
 t4 := Tryz.underlying4
 a4 := Tryz.isAgg4
 z4 := Tryz.sizeOf4
 v4 := Tryz.zeroValue4
 t5 := Tryz.underlying5
 a5 := Tryz.isAgg5
 z5 := Tryz.sizeOf5
 v5 := Tryz.zeroValue5
 t9 := Tryz.underlying9
 a9 := Tryz.isAgg9
 z9 := Tryz.sizeOf9
 v9 := Tryz.zeroValue9
 t20 := Tryz.underlying20
 a20 := Tryz.isAgg20
 z20 := Tryz.sizeOf20
 v20 := Tryz.zeroValue20
 t21 := Tryz.underlying21
 a21 := Tryz.isAgg21
 z21 := Tryz.sizeOf21
 v21 := Tryz.zeroValue21
 t37 := Tryz.underlying22
 a37 := Tryz.isAgg22
 z37 := Tryz.sizeOf22
 v37 := Tryz.zeroValue22
 t46 := Tryz.underlying251
 a46 := Tryz.isAgg251
 z46 := Tryz.sizeOf251
 v46 := Tryz.zeroValue251
 t51 := Tryz.underlying298
 a51 := Tryz.isAgg298
 z51 := Tryz.sizeOf298
 v51 := Tryz.zeroValue298
 t53 := Tryz.underlying278
 a53 := Tryz.isAgg278
 z53 := Tryz.sizeOf278
 v53 := Tryz.zeroValue278
 t75 := Tryz.underlying92
 a75 := Tryz.isAgg92
 z75 := Tryz.sizeOf92
 v75 := Tryz.zeroValue92
 t85 := Tryz.underlying235
 a85 := Tryz.isAgg235
 z85 := Tryz.sizeOf235
 v85 := Tryz.zeroValue235
 t127 := Tryz.underlying138
 a127 := Tryz.isAgg138
 z127 := Tryz.sizeOf138
 v127 := Tryz.zeroValue138
 t143 := Tryz.underlying340
 a143 := Tryz.isAgg340
 z143 := Tryz.sizeOf340
 v143 := Tryz.zeroValue340
 t145 := Tryz.underlying342
 a145 := Tryz.isAgg342
 z145 := Tryz.sizeOf342
 v145 := Tryz.zeroValue342
 t167 := Tryz.underlying308
 a167 := Tryz.isAgg308
 z167 := Tryz.sizeOf308
 v167 := Tryz.zeroValue308
 t168 := Tryz.underlying311
 a168 := Tryz.isAgg311
 z168 := Tryz.sizeOf311
 v168 := Tryz.zeroValue311
 t171 := Tryz.underlying277
 a171 := Tryz.isAgg277
 z171 := Tryz.sizeOf277
 v171 := Tryz.zeroValue277
 t173 := Tryz.underlying281
 a173 := Tryz.isAgg281
 z173 := Tryz.sizeOf281
 v173 := Tryz.zeroValue281
 t175 := Tryz.underlying309
 a175 := Tryz.isAgg309
 z175 := Tryz.sizeOf309
 v175 := Tryz.zeroValue309
 t210 := Tryz.underlying328
 a210 := Tryz.isAgg328
 z210 := Tryz.sizeOf328
 v210 := Tryz.zeroValue328
 t212 := Tryz.underlying315
 a212 := Tryz.isAgg315
 z212 := Tryz.sizeOf315
 v212 := Tryz.zeroValue315
 t213 := Tryz.underlying316
 a213 := Tryz.isAgg316
 z213 := Tryz.sizeOf316
 t232 := Tryz.underlying343
 a232 := Tryz.isAgg343
 z232 := Tryz.sizeOf343
 v232 := Tryz.zeroValue343
 t233 := Tryz.underlying344
 a233 := Tryz.isAgg344
 z233 := Tryz.sizeOf344
 v233 := Tryz.zeroValue344
 g15 := by kernel_rfl
 g16 := by kernel_rfl
 g17 := by kernel_rfl
 g18 := by kernel_rfl
 g19 := by kernel_rfl
 t80 := Tryz.underlying96
 a80 := Tryz.isAgg96
 z80 := Tryz.sizeOf96
 v80 := Tryz.zeroValue96
 i0 := by kernel_rfl
 i2 := by kernel_rfl
 i3 := by kernel_rfl
 i4 := by kernel_rfl
 i5 := by kernel_rfl
 i9 := by kernel_rfl
 i20 := by kernel_rfl
 i21 := by kernel_rfl
 i37 := by kernel_rfl
 i46 := by kernel_rfl
 i51 := by kernel_rfl
 i53 := by kernel_rfl
 i75 := by kernel_rfl
 i80 := by kernel_rfl
 i85 := by kernel_rfl
 i127 := by kernel_rfl
 i143 := by kernel_rfl
 i145 := by kernel_rfl
 i167 := by kernel_rfl
 i168 := by kernel_rfl
 i171 := by kernel_rfl
 i173 := by kernel_rfl
 i175 := by kernel_rfl
 i210 := by kernel_rfl
 i212 := by kernel_rfl
 i232 := by kernel_rfl
 i233 := by kernel_rfl
 m15 := by kernel_rfl
 m16 := by kernel_rfl
 m17 := by kernel_rfl
 m18 := by kernel_rfl
 m19 := by kernel_rfl
 c0 := by kernel_rfl
 c2 := by kernel_rfl
 c3 := by kernel_rfl
 c4 := by kernel_rfl
 c5 := by kernel_rfl
 c9 := by kernel_rfl
 c20 := by kernel_rfl
 c21 := by kernel_rfl
 c37 := by kernel_rfl
 c46 := by kernel_rfl
 c51 := by kernel_rfl
 c53 := by kernel_rfl
 c75 := by kernel_rfl
 c80 := by kernel_rfl
 c85 := by kernel_rfl
 c127 := by kernel_rfl
 c143 := by kernel_rfl
 c145 := by kernel_rfl
 c167 := by kernel_rfl
 c168 := by kernel_rfl
 c171 := by kernel_rfl
 c173 := by kernel_rfl
 c175 := by kernel_rfl
 c210 := by kernel_rfl
 c212 := by kernel_rfl
 c213 := by kernel_rfl
 c232 := by kernel_rfl
 c233 := by kernel_rfl }
def Tryz.lays101_ren : Go.Shelf.Ren := ⟨fun | 101 => 143 | 208 => 179 | 206 => 222 | n => n, fun | 9 => 9 | 4 => 4 | 3 => 3 | n => n, fun | n => n⟩
theorem Tryz.lays101 : Go.Proofs.Lays.n101 Tryz.prog Tryz.lays101_ren := {
 mixed := by kernel_rfl
 f101 := Tryz.func143.trans (congrArg some (by kernel_rfl))
 f206 := Tryz.func222.trans (congrArg some (by kernel_rfl))
 f208 := Tryz.func179.trans (congrArg some (by kernel_rfl))
 t3 := Tryz.underlying3
 a3 := Tryz.isAgg3
 z3 := Tryz.sizeOf3
 v3 := Tryz.zeroValue3
 t4 := Tryz.underlying4
 a4 := Tryz.isAgg4
 z4 := Tryz.sizeOf4
 v4 := Tryz.zeroValue4
 t9 := Tryz.underlying9
 a9 := Tryz.isAgg9
 z9 := Tryz.sizeOf9
 v9 := Tryz.zeroValue9 }
open Go.RowKit Go.Lib in
theorem Tryz.strings_TrimPrefix (s p : ByteArray) (w : World) :
 Calls Tryz.prog 143 #[.string s, .string p] w fun e w' => e = .returned (.string ⟨(Lib.trimPrefix s.data.toList p.data.toList).toArray⟩) ∧ w' = w := Any.strings_TrimPrefix Tryz.lays101 s p w
def Tryz.lays146_ren : Go.Shelf.Ren := ⟨fun | 146 => 104 | 221 => 142 | 268 => 176 | 138 => 177 | 143 => 178 | 195 => 218 | 197 => 219 | 218 => 220 | 219 => 221 | 260 => 243 | 217 => 244 | 225 => 245 | 224 => 246 | 267 => 247 | 266 => 258 | 314 => 259 | n => n, fun | 9 => 9 | 31 => 122 | 3 => 3 | 4 => 4 | 0 => 0 | 105 => 303 | 21 => 21 | 5 => 5 | 46 => 251 | 119 => 333 | 139 => 336 | 138 => 335 | 146 => 337 | 51 => 298 | n => n, fun | 1 => 1 | 3 => 4 | 4 => 5 | n => n⟩
theorem Tryz.lays146 : Go.Proofs.Lays.n146 Tryz.prog Tryz.lays146_ren := {
 mixed := by kernel_rfl
 f138 := Tryz.func177.trans (congrArg some (by kernel_rfl))
 f143 := Tryz.func178.trans (congrArg some (by kernel_rfl))
 f146 := Tryz.func104.trans (congrArg some (by kernel_rfl))
 f195 := Tryz.func218.trans (congrArg some (by kernel_rfl))
 f197 := Tryz.func219.trans (congrArg some (by kernel_rfl))
 f217 := Tryz.func244.trans (congrArg some (by kernel_rfl))
 f218 := Tryz.func220.trans (congrArg some (by kernel_rfl))
 f219 := Tryz.func221.trans (congrArg some (by kernel_rfl))
 f221 := Tryz.func142.trans (congrArg some (by kernel_rfl))
 f224 := Tryz.func246.trans (congrArg some (by kernel_rfl))
 f225 := Tryz.func245.trans (congrArg some (by kernel_rfl))
 f260 := Tryz.func243.trans (congrArg some (by kernel_rfl))
 f266 := Tryz.func258.trans (congrArg some (by kernel_rfl))
 f267 := Tryz.func247.trans (congrArg some (by kernel_rfl))
 f268 := Tryz.func176.trans (congrArg some (by kernel_rfl))
 f314 := Tryz.func259.trans (congrArg some (by kernel_rfl))
 t0 := Tryz.underlying0
 a0 := Tryz.isAgg0
 z0 := Tryz.sizeOf0
 v0 := Tryz.zeroValue0
 t3 := Tryz.underlying3
 a3 := Tryz.isAgg3
 z3 := Tryz.sizeOf3
 v3 := Tryz.zeroValue3
 t4 := Tryz.underlying4
 a4 := Tryz.isAgg4
 z4 := Tryz.sizeOf4
 v4 := Tryz.zeroValue4
 t5 := Tryz.underlying5
 a5 := Tryz.isAgg5
 z5 := Tryz.sizeOf5
 v5 := Tryz.zeroValue5
 t9 := Tryz.underlying9
 a9 := Tryz.isAgg9
 z9 := Tryz.sizeOf9
 v9 := Tryz.zeroValue9
 t21 := Tryz.underlying21
 a21 := Tryz.isAgg21
 z21 := Tryz.sizeOf21
 v21 := Tryz.zeroValue21
 t31 := Tryz.underlying122
 a31 := Tryz.isAgg122
 z31 := Tryz.sizeOf122
 v31 := Tryz.zeroValue122
 t46 := Tryz.underlying251
 a46 := Tryz.isAgg251
 z46 := Tryz.sizeOf251
 v46 := Tryz.zeroValue251
 t51 := Tryz.underlying298
 a51 := Tryz.isAgg298
 z51 := Tryz.sizeOf298
 v51 := Tryz.zeroValue298
 t105 := Tryz.underlying303
 a105 := Tryz.isAgg303
 z105 := Tryz.sizeOf303
 v105 := Tryz.zeroValue303
 t119 := Tryz.underlying333
 a119 := Tryz.isAgg333
 z119 := Tryz.sizeOf333
 t138 := Tryz.underlying335
 a138 := Tryz.isAgg335
 z138 := Tryz.sizeOf335
 v138 := Tryz.zeroValue335
 t139 := Tryz.underlying336
 a139 := Tryz.isAgg336
 z139 := Tryz.sizeOf336
 v139 := Tryz.zeroValue336
 t146 := Tryz.underlying337
 a146 := Tryz.isAgg337
 z146 := Tryz.sizeOf337
 v146 := Tryz.zeroValue337
 g1 := by kernel_rfl
 g3 := by kernel_rfl
 g4 := by kernel_rfl }
open Go.RowKit Go.Lib in
theorem Tryz.strings_Split (s sep : ByteArray) (m : Int) (w : World) (hs : s.size < 4294967281) (hm : w.cell? ⟨1, 0, none⟩ = some (.int .i64 m)) (h1 : 1 ≤ sep.size) :
 Calls Tryz.prog 104 #[.string s, .string sep] w fun e w' =>
 e = .returned (.slice (some ⟨w.heap.size, 0, none⟩) (Lib.countB s sep + 1) (Lib.countB s sep + 1)) ∧ w' = w.alloc (.cells ((Lib.splitB sep 0 (Lib.countB s sep) s).map Value.string).toArray 9) := Any.strings_Split Tryz.lays146 (by kernel_rfl) s sep m w hs hm h1
def Tryz.laysM146_ren : Go.Shelf.Ren := ⟨fun | 146 => 104 | 221 => 142 | 268 => 176 | 138 => 177 | 143 => 178 | 195 => 218 | 197 => 219 | 218 => 220 | 219 => 221 | 260 => 243 | 217 => 244 | 225 => 245 | 224 => 246 | 267 => 247 | 266 => 258 | 314 => 259 | n => n, fun | 9 => 9 | 31 => 122 | 3 => 3 | 4 => 4 | 0 => 0 | 105 => 303 | 21 => 21 | 5 => 5 | 46 => 251 | 119 => 333 | 139 => 336 | 138 => 335 | 146 => 337 | 51 => 298 | n => n, fun | 1 => 1 | 3 => 4 | 4 => 5 | n => n⟩
theorem Tryz.laysM146 : Go.Proofs.LaysM.n146 Tryz.prog Tryz.laysM146_ren := {
 mixed := by kernel_rfl
 f138 := Tryz.func177.trans (congrArg some (by kernel_rfl))
 f143 := Tryz.func178.trans (congrArg some (by kernel_rfl))
 f146 := Tryz.func104.trans (congrArg some (by kernel_rfl))
 f195 := Tryz.func218.trans (congrArg some (by kernel_rfl))
 f197 := Tryz.func219.trans (congrArg some (by kernel_rfl))
 f217 := Tryz.func244.trans (congrArg some (by kernel_rfl))
 f218 := Tryz.func220.trans (congrArg some (by kernel_rfl))
 f219 := Tryz.func221.trans (congrArg some (by kernel_rfl))
 f221 := Tryz.func142.trans (congrArg some (by kernel_rfl))
 f224 := Tryz.func246.trans (congrArg some (by kernel_rfl))
 f225 := Tryz.func245.trans (congrArg some (by kernel_rfl))
 f260 := Tryz.func243.trans (congrArg some (by kernel_rfl))
 f266 := Tryz.func258.trans (congrArg some (by kernel_rfl))
 f267 := Tryz.func247.trans (congrArg some (by kernel_rfl))
 f268 := Tryz.func176.trans (congrArg some (by kernel_rfl))
 f314 := Tryz.func259.trans (congrArg some (by kernel_rfl))
 t0 := Tryz.underlying0
 a0 := Tryz.isAgg0
 z0 := Tryz.sizeOf0
 v0 := Tryz.zeroValue0
 t3 := Tryz.underlying3
 a3 := Tryz.isAgg3
 z3 := Tryz.sizeOf3
 v3 := Tryz.zeroValue3
 t4 := Tryz.underlying4
 a4 := Tryz.isAgg4
 z4 := Tryz.sizeOf4
 v4 := Tryz.zeroValue4
 t5 := Tryz.underlying5
 a5 := Tryz.isAgg5
 z5 := Tryz.sizeOf5
 v5 := Tryz.zeroValue5
 t9 := Tryz.underlying9
 a9 := Tryz.isAgg9
 z9 := Tryz.sizeOf9
 v9 := Tryz.zeroValue9
 t21 := Tryz.underlying21
 a21 := Tryz.isAgg21
 z21 := Tryz.sizeOf21
 v21 := Tryz.zeroValue21
 t31 := Tryz.underlying122
 a31 := Tryz.isAgg122
 z31 := Tryz.sizeOf122
 v31 := Tryz.zeroValue122
 t46 := Tryz.underlying251
 a46 := Tryz.isAgg251
 z46 := Tryz.sizeOf251
 v46 := Tryz.zeroValue251
 t51 := Tryz.underlying298
 a51 := Tryz.isAgg298
 z51 := Tryz.sizeOf298
 v51 := Tryz.zeroValue298
 t105 := Tryz.underlying303
 a105 := Tryz.isAgg303
 z105 := Tryz.sizeOf303
 v105 := Tryz.zeroValue303
 t119 := Tryz.underlying333
 a119 := Tryz.isAgg333
 z119 := Tryz.sizeOf333
 t138 := Tryz.underlying335
 a138 := Tryz.isAgg335
 z138 := Tryz.sizeOf335
 v138 := Tryz.zeroValue335
 t139 := Tryz.underlying336
 a139 := Tryz.isAgg336
 z139 := Tryz.sizeOf336
 v139 := Tryz.zeroValue336
 t146 := Tryz.underlying337
 a146 := Tryz.isAgg337
 z146 := Tryz.sizeOf337
 v146 := Tryz.zeroValue337
 g1 := by kernel_rfl
 g3 := by kernel_rfl
 g4 := by kernel_rfl
 i0 := by kernel_rfl
 i3 := by kernel_rfl
 i4 := by kernel_rfl
 i5 := by kernel_rfl
 i9 := by kernel_rfl
 i21 := by kernel_rfl
 i31 := by kernel_rfl
 i46 := by kernel_rfl
 i51 := by kernel_rfl
 i105 := by kernel_rfl
 i138 := by kernel_rfl
 i139 := by kernel_rfl
 i146 := by kernel_rfl
 m1 := by kernel_rfl
 s1_3 := fun w h => Go.Proofs.cell_of_shapedOpen_int (zero := #[.int .i64 0]) (t := 3) h (of_decide_eq_true (by kernel_rfl)) (by kernel_rfl) rfl (by kernel_rfl) (by kernel_rfl) Tryz.underlying3
 m3 := by kernel_rfl
 m4 := by kernel_rfl }
end Go.Proofs
