/-
 Contracts of the library that this program calls, by its own numbers: which of the shelf they are.
-/
import Derived.Shelf.Strings.Builder1
import Derived.Shelf.Strings.Builder2
import Derived.Shelf.Strings.OnBuilder
import Derived.Shelf.Strings.Trim
import Derived.Shelf.Small.Utf8
import Derived.Shelf.Small.Strs
import Derived.Shelf.Small.Wraps
import Derived.Shelf.Strings.BuilderF
import Derived.Shelf.Strings.BuilderK
import Derived.Shelf.Utf8.RuneCount
import Derived.Shelf.Strings.Builder2Cap
import Derived.Shelf.Strconv.Itoa0
import Derived.Shelf.Strconv.Itoa1
import Derived.Shelf.LaysM
import Derived.Shelf.Strconv.Itoa2
import Derived.Shelf.Strconv.Itoa3
import Derived.Shelf.Strconv.Itoa4
import Derived.Shelf.Strconv.ParseIntEmpty
import Derived.Shelf.Strconv.Clone
import Derived.Shelf.Strconv.SyntaxError
import Derived.Shelf.LaysC
import Derived.Shelf.Strconv.ToError
import Derived.Shelf.Strconv.Lower
import Derived.Shelf.Strconv.ParseUint10
import Derived.Shelf.Strconv.ParseUint10Empty
import Derived.Shelf.Strconv.ParseUint10Any
import Derived.Shelf.Strconv.ParseInt10
import Derived.Shelf.Strconv.RangeError
import Derived.Shelf.Strconv.ToErrorRange
import Derived.Shelf.Strconv.ParseUintEmpty
import Derived.Shelf.Strconv.ParseUint10b64
import Derived.Shelf.Strconv.ParseUint10b32
import Derived.Shelf.Strconv.ParseUint10b16
import Derived.Shelf.Strconv.ParseUint10b8
import Derived.Shelf.Strconv.ParseUint10At
import Derived.Shelf.Strconv.ParseInt10At64
import Derived.Shelf.Strconv.ParseInt10At32
import Derived.Shelf.Strconv.ParseInt10At16
import Derived.Shelf.Strconv.ParseInt10At8
import Derived.Shelf.Strconv.ParseInt10All
import Derived.Shelf.Strconv.ParseIntPublic10
import Derived.Shelf.Strconv.ErrVarParseInt
import Derived.Shelf.Strings.Search1
import Derived.Shelf.Strings.Search2
import Derived.Shelf.Strings.Search3
import Derived.Shelf.Strings.Count
import Derived.Shelf.Strings.Shaped
import Derived.Shelf.Strings.Prefix
import Derived.Shelf.Strings.Split
import Derived.Shelf.Strings.SplitShaped
import Derived.Shelf.Unicode.Decode
import Derived.Shelf.Strings.Runes
import Derived.Shelf.Strings.RuneCount
import Derived.Shelf.Strings.AsciiSet
import Derived.Shelf.Strings.Explode
import Derived.Shelf.Unicode.DecodeSlow
import Derived.Shelf.Unicode.DecodeAny
import Derived.Shelf.Unicode.DecodeLast
import Derived.Shelf.Slices.Turned
import Derived.Shelf.Slices.Equal
import Derived.Ground.Names2Prog
import Derived.Shelf.Slices.Clone
import Derived.Shelf.Slices.Empties2
import Derived.Ground.SlgnProg
import Derived.Shelf.SlicesE.Clone
import Derived.Test.YtdbakplieenefaaGreatDoorProg
namespace Go.Proofs
open Go.Shelf
def Tryz.lays169_ren : Go.Shelf.Ren := ⟨fun | 169 => 46 | n => n, fun | 70 => 100 | 9 => 9 | 0 => 0 | 72 => 102 | 37 => 48 | 127 => 139 | 3 => 3 | 5 => 5 | n => n, fun | n => n⟩
theorem Tryz.lays169 : Go.Proofs.Lays.n169 Tryz.prog Tryz.lays169_ren := {
 mixed := by kernel_rfl
 f169 := Tryz.func46.trans (congrArg some (by kernel_rfl))
 t0 := Tryz.underlying0
 a0 := Tryz.isAgg0
 z0 := Tryz.sizeOf0
 v0 := Tryz.zeroValue0
 t3 := Tryz.underlying3
 a3 := Tryz.isAgg3
 z3 := Tryz.sizeOf3
 v3 := Tryz.zeroValue3
 t9 := Tryz.underlying9
 a9 := Tryz.isAgg9
 z9 := Tryz.sizeOf9
 v9 := Tryz.zeroValue9
 t37 := Tryz.underlying48
 a37 := Tryz.isAgg48
 z37 := Tryz.sizeOf48
 v37 := Tryz.zeroValue48
 t70 := Tryz.underlying100
 a70 := Tryz.isAgg100
 z70 := Tryz.sizeOf100
 v70 := Tryz.zeroValue100
 t72 := Tryz.underlying102
 a72 := Tryz.isAgg102
 z72 := Tryz.sizeOf102
 v72 := Tryz.zeroValue102
 t127 := Tryz.underlying139
 a127 := Tryz.isAgg139
 z127 := Tryz.sizeOf139
 v127 := Tryz.zeroValue139 }
theorem Tryz.Builder_Extra_169 : Builder.Extra Tryz.prog Tryz.lays169_ren := {
 sizeBuilder := by kernel_rfl
 liesBuilder := by kernel_rfl
 t5 := Tryz.underlying5
 a5 := Tryz.isAgg5
 z5 := Tryz.sizeOf5
 v5 := Tryz.zeroValue5
 infoByte := by kernel_rfl
 cellsByte := by kernel_rfl
 sizeByte := by kernel_rfl
 neB5 := by decide }
def Tryz.lays156_ren : Go.Shelf.Ren := ⟨fun | 156 => 24 | 165 => 44 | 166 => 45 | 169 => 46 | 240 => 80 | 241 => 81 | 276 => 108 | 277 => 109 | n => n, fun | 31 => 66 | 9 => 9 | 3 => 3 | 4 => 4 | 0 => 0 | 20 => 20 | 72 => 102 | 76 => 106 | 70 => 100 | 37 => 48 | 75 => 105 | 127 => 139 | 164 => 178 | 5 => 5 | 80 => 108 | n => n, fun | n => n⟩
theorem Tryz.lays156 : Go.Proofs.Lays.n156 Tryz.prog Tryz.lays156_ren := {
 mixed := by kernel_rfl
 f156 := Tryz.func24.trans (congrArg some (by kernel_rfl))
 f165 := Tryz.func44.trans (congrArg some (by kernel_rfl))
 f166 := Tryz.func45.trans (congrArg some (by kernel_rfl))
 f169 := Tryz.func46.trans (congrArg some (by kernel_rfl))
 f240 := Tryz.func80.trans (congrArg some (by kernel_rfl))
 f241 := Tryz.func81.trans (congrArg some (by kernel_rfl))
 f276 := Tryz.func108.trans (congrArg some (by kernel_rfl))
 f277 := Tryz.func109.trans (congrArg some (by kernel_rfl))
 t0 := Tryz.underlying0
 a0 := Tryz.isAgg0
 z0 := Tryz.sizeOf0
 v0 := Tryz.zeroValue0
 t3 := Tryz.underlying3
 a3 := Tryz.isAgg3
 z3 := Tryz.sizeOf3
 v3 := Tryz.zeroValue3
 t4 := Tryz.underlying4
 a4 := Tryz.isAgg4
 z4 := Tryz.sizeOf4
 v4 := Tryz.zeroValue4
 t9 := Tryz.underlying9
 a9 := Tryz.isAgg9
 z9 := Tryz.sizeOf9
 v9 := Tryz.zeroValue9
 t20 := Tryz.underlying20
 a20 := Tryz.isAgg20
 z20 := Tryz.sizeOf20
 v20 := Tryz.zeroValue20
 t31 := Tryz.underlying66
 a31 := Tryz.isAgg66
 z31 := Tryz.sizeOf66
 v31 := Tryz.zeroValue66
 t37 := Tryz.underlying48
 a37 := Tryz.isAgg48
 z37 := Tryz.sizeOf48
 v37 := Tryz.zeroValue48
 t70 := Tryz.underlying100
 a70 := Tryz.isAgg100
 z70 := Tryz.sizeOf100
 v70 := Tryz.zeroValue100
 t72 := Tryz.underlying102
 a72 := Tryz.isAgg102
 z72 := Tryz.sizeOf102
 v72 := Tryz.zeroValue102
 t75 := Tryz.underlying105
 a75 := Tryz.isAgg105
 z75 := Tryz.sizeOf105
 v75 := Tryz.zeroValue105
 t76 := Tryz.underlying106
 a76 := Tryz.isAgg106
 z76 := Tryz.sizeOf106
 v76 := Tryz.zeroValue106
 t127 := Tryz.underlying139
 a127 := Tryz.isAgg139
 z127 := Tryz.sizeOf139
 v127 := Tryz.zeroValue139
 t164 := Tryz.underlying178
 a164 := Tryz.isAgg178
 z164 := Tryz.sizeOf178
 v164 := Tryz.zeroValue178 }
theorem Tryz.Builder_Extra_156 : Builder.Extra Tryz.prog Tryz.lays156_ren := {
 sizeBuilder := by kernel_rfl
 liesBuilder := by kernel_rfl
 t5 := Tryz.underlying5
 a5 := Tryz.isAgg5
 z5 := Tryz.sizeOf5
 v5 := Tryz.zeroValue5
 infoByte := by kernel_rfl
 cellsByte := by kernel_rfl
 sizeByte := by kernel_rfl
 neB5 := by decide }
open Go.RowKit in
theorem Tryz.strings_Join_none (a : Option Addr) (c : Nat) (sep : ByteArray) (w : World) :
 Calls Tryz.prog 24 #[.slice a 0 c, .string sep] w fun e w' => e = .returned (.string ⟨#[]⟩) ∧ w' = w := Any.strings_Join_none Tryz.lays156 Tryz.Builder_Extra_156 a c sep w
open Go.RowKit in
theorem Tryz.strings_Join (bk o c : Nat) (xs : List ByteArray) (sep : ByteArray) (w : World) (hcells : ∀ (j : Nat) x, xs[j]? = some x → w.cell? ⟨bk, o + j, none⟩ = some (.string x)) (hbk : bk < w.heap.size) (hN : xs.length ≤ 140737488355328) (hcap : xs.length ≤ c) (hlen : (Lib.join (xs.map (·.data.toList)) sep.data.toList).length ≤ 140737488355328) :
 Calls Tryz.prog 24 #[.slice (some ⟨bk, o, none⟩) xs.length c, .string sep] w fun e w' => e = .returned (.string ⟨(Lib.join (xs.map (·.data.toList)) sep.data.toList).toArray⟩) ∧ Below w.heap.size w w' := Any.strings_Join Tryz.lays156 Tryz.Builder_Extra_156 bk o c xs sep w hcells hbk hN hcap hlen
def Tryz.lays160_ren : Go.Shelf.Ren := ⟨fun | 160 => 96 | 232 => 125 | 231 => 124 | 227 => 126 | 234 => 128 | 233 => 127 | 236 => 130 | 235 => 129 | 228 => 151 | 271 => 153 | 151 => 152 | 197 => 143 | 120 => 169 | 152 => 168 | 260 => 157 | 137 => 177 | 119 => 178 | 224 => 160 | 225 => 159 | 217 => 158 | 266 => 170 | n => n, fun | 9 => 9 | 4 => 4 | 3 => 3 | 5 => 5 | 117 => 198 | 116 => 197 | 0 => 0 | 124 => 201 | 21 => 21 | 105 => 213 | 46 => 211 | 119 => 231 | 139 => 234 | 138 => 233 | n => n, fun | 3 => 4 | 4 => 5 | n => n⟩
theorem Tryz.lays160 : Go.Proofs.Lays.n160 Tryz.prog Tryz.lays160_ren := {
 mixed := by kernel_rfl
 f119 := Tryz.func178.trans (congrArg some (by kernel_rfl))
 f120 := Tryz.func169.trans (congrArg some (by kernel_rfl))
 f137 := Tryz.func177.trans (congrArg some (by kernel_rfl))
 f151 := Tryz.func152.trans (congrArg some (by kernel_rfl))
 f152 := Tryz.func168.trans (congrArg some (by kernel_rfl))
 f160 := Tryz.func96.trans (congrArg some (by kernel_rfl))
 f197 := Tryz.func143.trans (congrArg some (by kernel_rfl))
 f217 := Tryz.func158.trans (congrArg some (by kernel_rfl))
 f224 := Tryz.func160.trans (congrArg some (by kernel_rfl))
 f225 := Tryz.func159.trans (congrArg some (by kernel_rfl))
 f227 := Tryz.func126.trans (congrArg some (by kernel_rfl))
 f228 := Tryz.func151.trans (congrArg some (by kernel_rfl))
 f231 := Tryz.func124.trans (congrArg some (by kernel_rfl))
 f232 := Tryz.func125.trans (congrArg some (by kernel_rfl))
 f233 := Tryz.func127.trans (congrArg some (by kernel_rfl))
 f234 := Tryz.func128.trans (congrArg some (by kernel_rfl))
 f235 := Tryz.func129.trans (congrArg some (by kernel_rfl))
 f236 := Tryz.func130.trans (congrArg some (by kernel_rfl))
 f260 := Tryz.func157.trans (congrArg some (by kernel_rfl))
 f266 := Tryz.func170.trans (congrArg some (by kernel_rfl))
 f271 := Tryz.func153.trans (congrArg some (by kernel_rfl))
 t0 := Tryz.underlying0
 a0 := Tryz.isAgg0
 z0 := Tryz.sizeOf0
 v0 := Tryz.zeroValue0
 t3 := Tryz.underlying3
 a3 := Tryz.isAgg3
 z3 := Tryz.sizeOf3
 v3 := Tryz.zeroValue3
 t4 := Tryz.underlying4
 a4 := Tryz.isAgg4
 z4 := Tryz.sizeOf4
 v4 := Tryz.zeroValue4
 t5 := Tryz.underlying5
 a5 := Tryz.isAgg5
 z5 := Tryz.sizeOf5
 v5 := Tryz.zeroValue5
 t9 := Tryz.underlying9
 a9 := Tryz.isAgg9
 z9 := Tryz.sizeOf9
 v9 := Tryz.zeroValue9
 t21 := Tryz.underlying21
 a21 := Tryz.isAgg21
 z21 := Tryz.sizeOf21
 v21 := Tryz.zeroValue21
 t46 := Tryz.underlying211
 a46 := Tryz.isAgg211
 z46 := Tryz.sizeOf211
 v46 := Tryz.zeroValue211
 t105 := Tryz.underlying213
 a105 := Tryz.isAgg213
 z105 := Tryz.sizeOf213
 v105 := Tryz.zeroValue213
 t116 := Tryz.underlying197
 a116 := Tryz.isAgg197
 z116 := Tryz.sizeOf197
 t117 := Tryz.underlying198
 a117 := Tryz.isAgg198
 z117 := Tryz.sizeOf198
 v117 := Tryz.zeroValue198
 t119 := Tryz.underlying231
 a119 := Tryz.isAgg231
 z119 := Tryz.sizeOf231
 t124 := Tryz.underlying201
 a124 := Tryz.isAgg201
 z124 := Tryz.sizeOf201
 v124 := Tryz.zeroValue201
 t138 := Tryz.underlying233
 a138 := Tryz.isAgg233
 z138 := Tryz.sizeOf233
 v138 := Tryz.zeroValue233
 t139 := Tryz.underlying234
 a139 := Tryz.isAgg234
 z139 := Tryz.sizeOf234
 v139 := Tryz.zeroValue234
 g3 := by kernel_rfl
 g4 := by kernel_rfl }
def Tryz.lays104_ren : Go.Shelf.Ren := ⟨fun | 104 => 52 | 211 => 82 | 207 => 110 | n => n, fun | 9 => 9 | 4 => 4 | 24 => 117 | 3 => 3 | n => n, fun | n => n⟩
theorem Tryz.lays104 : Go.Proofs.Lays.n104 Tryz.prog Tryz.lays104_ren := {
 mixed := by kernel_rfl
 f104 := Tryz.func52.trans (congrArg some (by kernel_rfl))
 f207 := Tryz.func110.trans (congrArg some (by kernel_rfl))
 f211 := Tryz.func82.trans (congrArg some (by kernel_rfl))
 t3 := Tryz.underlying3
 a3 := Tryz.isAgg3
 z3 := Tryz.sizeOf3
 v3 := Tryz.zeroValue3
 t4 := Tryz.underlying4
 a4 := Tryz.isAgg4
 z4 := Tryz.sizeOf4
 v4 := Tryz.zeroValue4
 t9 := Tryz.underlying9
 a9 := Tryz.isAgg9
 z9 := Tryz.sizeOf9
 v9 := Tryz.zeroValue9
 t24 := Tryz.underlying117
 a24 := Tryz.isAgg117
 z24 := Tryz.sizeOf117
 v24 := Tryz.zeroValue117 }
open Go.RowKit in
theorem Tryz.strings_CutSuffix (s p : ByteArray) (w : World) (hs : s.size ≤ 9223372036854775807) :
 Calls Tryz.prog 52 #[.string s, .string p] w fun e w' => e = .returned (.tuple #[.string ⟨(Lib.trimSuffix s.data.toList p.data.toList).toArray⟩, .bool (Lib.hasSuffix s.data.toList p.data.toList)]) ∧ w' = w := Any.strings_CutSuffix Tryz.lays104 s p w hs
def Tryz.laysM173_ren : Go.Shelf.Ren := ⟨fun | 173 => 43 | 246 => 79 | 283 => 104 | 284 => 105 | 285 => 106 | 286 => 107 | 129 => 138 | 317 => 137 | 318 => 139 | 319 => 140 | 320 => 141 | 337 => 155 | 338 => 156 | n => n, fun | 2 => 2 | 3 => 3 | 9 => 9 | 4 => 4 | 171 => 172 | 0 => 0 | 53 => 173 | 37 => 48 | 5 => 5 | 173 => 176 | 212 => 207 | 51 => 208 | 20 => 20 | 213 => 209 | 46 => 211 | 232 => 229 | 233 => 230 | n => n, fun | 17 => 0 | 18 => 2 | 19 => 3 | n => n⟩
theorem Tryz.laysM173 : Go.Proofs.LaysM.n173 Tryz.prog Tryz.laysM173_ren := {
 mixed := by kernel_rfl
 f129 := Tryz.func138.trans (congrArg some (by kernel_rfl))
 f173 := Tryz.func43.trans (congrArg some (by kernel_rfl))
 f246 := Tryz.func79.trans (congrArg some (by kernel_rfl))
 f283 := Tryz.func104.trans (congrArg some (by kernel_rfl))
 f284 := Tryz.func105.trans (congrArg some (by kernel_rfl))
 f285 := Tryz.func106.trans (congrArg some (by kernel_rfl))
 f286 := Tryz.func107.trans (congrArg some (by kernel_rfl))
 f317 := Tryz.func137.trans (congrArg some (by kernel_rfl))
 f318 := Tryz.func139.trans (congrArg some (by kernel_rfl))
 f319 := Tryz.func140.trans (congrArg some (by kernel_rfl))
 f320 := Tryz.func141.trans (congrArg some (by kernel_rfl))
 f337 := Tryz.func155.trans (congrArg some (by kernel_rfl))
 f338 := Tryz.func156.trans (congrArg some (by kernel_rfl))
 t0 := Tryz.underlying0
 a0 := Tryz.isAgg0
 z0 := Tryz.sizeOf0
 v0 := Tryz.zeroValue0
 t2 := Tryz.underlying2
 a2 := Tryz.isAgg2
 z2 := Tryz.sizeOf2
 v2 := Tryz.zeroValue2
 t3 := Tryz.underlying3
 a3 := Tryz.isAgg3
 z3 := Tryz.sizeOf3
 v3 := Tryz.zeroValue3
 t4 := Tryz.underlying4
 a4 := Tryz.isAgg4
 z4 := Tryz.sizeOf4
 v4 := Tryz.zeroValue4
 t5 := Tryz.underlying5
 a5 := Tryz.isAgg5
 z5 := Tryz.sizeOf5
 v5 := Tryz.zeroValue5
 t9 := Tryz.underlying9
 a9 := Tryz.isAgg9
 z9 := Tryz.sizeOf9
 v9 := Tryz.zeroValue9
 t20 := Tryz.underlying20
 a20 := Tryz.isAgg20
 z20 := Tryz.sizeOf20
 v20 := Tryz.zeroValue20
 t37 := Tryz.underlying48
 a37 := Tryz.isAgg48
 z37 := Tryz.sizeOf48
 v37 := Tryz.zeroValue48
 t46 := Tryz.underlying211
 a46 := Tryz.isAgg211
 z46 := Tryz.sizeOf211
 v46 := Tryz.zeroValue211
 t51 := Tryz.underlying208
 a51 := Tryz.isAgg208
 z51 := Tryz.sizeOf208
 v51 := Tryz.zeroValue208
 t53 := Tryz.underlying173
 a53 := Tryz.isAgg173
 z53 := Tryz.sizeOf173
 v53 := Tryz.zeroValue173
 t171 := Tryz.underlying172
 a171 := Tryz.isAgg172
 z171 := Tryz.sizeOf172
 v171 := Tryz.zeroValue172
 t173 := Tryz.underlying176
 a173 := Tryz.isAgg176
 z173 := Tryz.sizeOf176
 v173 := Tryz.zeroValue176
 t212 := Tryz.underlying207
 a212 := Tryz.isAgg207
 z212 := Tryz.sizeOf207
 v212 := Tryz.zeroValue207
 t213 := Tryz.underlying209
 a213 := Tryz.isAgg209
 z213 := Tryz.sizeOf209
 t232 := Tryz.underlying229
 a232 := Tryz.isAgg229
 z232 := Tryz.sizeOf229
 v232 := Tryz.zeroValue229
 t233 := Tryz.underlying230
 a233 := Tryz.isAgg230
 z233 := Tryz.sizeOf230
 v233 := Tryz.zeroValue230
 g17 := by kernel_rfl
 g18 := by kernel_rfl
 g19 := by kernel_rfl
 i0 := by kernel_rfl
 i2 := by kernel_rfl
 i3 := by kernel_rfl
 i4 := by kernel_rfl
 i5 := by kernel_rfl
 i9 := by kernel_rfl
 i20 := by kernel_rfl
 i37 := by kernel_rfl
 i46 := by kernel_rfl
 i51 := by kernel_rfl
 i53 := by kernel_rfl
 i171 := by kernel_rfl
 i173 := by kernel_rfl
 i212 := by kernel_rfl
 i232 := by kernel_rfl
 i233 := by kernel_rfl
 m17 := by kernel_rfl
 m18 := by kernel_rfl
 m19 := by kernel_rfl }
open Go.RowKit Go.Sort Go.Lib in
theorem Tryz.strconv_FormatInt_10 (n : Int) (h0 : -9223372036854775808 ≤ n) (h1 : n ≤ 9223372036854775807) (w : World) (htab : Lib.TabIs Tryz.prog w "internal/strconv.uint64pow10" .u64 Lib.pow10Tab) :
 Calls Tryz.prog 43 #[.int .i64 n, .int .i64 10] w fun e w' => e = .returned (.string ⟨(Lib.itoa n).toArray⟩) ∧ ∃ k os, w' = grow (w.drewN k) os := Any.strconv_FormatInt_10 Tryz.laysM173 n h0 h1 w htab
def Tryz.laysC174_ren : Go.Shelf.Ren := ⟨fun | 174 => 116 | 247 => 147 | 245 => 148 | 287 => 163 | 279 => 164 | 280 => 165 | 281 => 166 | 282 => 167 | 321 => 172 | 322 => 173 | 316 => 174 | 171 => 176 | 205 => 175 | 243 => 179 | 246 => 79 | 283 => 104 | 284 => 105 | 285 => 106 | 286 => 107 | 129 => 138 | 317 => 137 | 318 => 139 | 319 => 140 | 320 => 141 | 337 => 155 | 338 => 156 | n => n, fun | 9 => 9 | 3 => 3 | 2 => 2 | 75 => 105 | 85 => 185 | 4 => 4 | 167 => 221 | 5 => 5 | 53 => 173 | 175 => 222 | 46 => 211 | 168 => 224 | 37 => 48 | 0 => 0 | 210 => 240 | 21 => 21 | 127 => 139 | 145 => 245 | 143 => 243 | 171 => 172 | 173 => 176 | 212 => 207 | 51 => 208 | 20 => 20 | 213 => 209 | 232 => 229 | 233 => 230 | 80 => 108 | n => n, fun | 15 => 6 | 16 => 7 | 17 => 0 | 18 => 2 | 19 => 3 | n => n⟩
theorem Tryz.laysC174 : Go.Proofs.LaysC.n174 Tryz.prog Tryz.laysC174_ren := {
 mixed := by kernel_rfl
 f129 := Tryz.func138.trans (congrArg some (by kernel_rfl))
 f171 := Tryz.func176.trans (congrArg some (by kernel_rfl))
 f174 := Tryz.func116.trans (congrArg some (by kernel_rfl))
 f205 := Tryz.func175.trans (congrArg some (by kernel_rfl))
 f243 := Tryz.func179.trans (congrArg some (by kernel_rfl))
 f245 := Tryz.func148.trans (congrArg some (by kernel_rfl))
 f246 := Tryz.func79.trans (congrArg some (by kernel_rfl))
 f247 := Tryz.func147.trans (congrArg some (by kernel_rfl))
 f279 := Tryz.func164.trans (congrArg some (by kernel_rfl))
 f280 := Tryz.func165.trans (congrArg some (by kernel_rfl))
 f281 := Tryz.func166.trans (congrArg some (by kernel_rfl))
 f282 := Tryz.func167.trans (congrArg some (by kernel_rfl))
 f283 := Tryz.func104.trans (congrArg some (by kernel_rfl))
 f284 := Tryz.func105.trans (congrArg some (by kernel_rfl))
 f285 := Tryz.func106.trans (congrArg some (by kernel_rfl))
 f286 := Tryz.func107.trans (congrArg some (by kernel_rfl))
 f287 := Tryz.func163.trans (congrArg some (by kernel_rfl))
 f316 := Tryz.func174.trans (congrArg some (by kernel_rfl))
 f317 := Tryz.func137.trans (congrArg some (by kernel_rfl))
 f318 := Tryz.func139.trans (congrArg some (by kernel_rfl))
 f319 := Tryz.func140.trans (congrArg some (by kernel_rfl))
 f320 := Tryz.func141.trans (congrArg some (by kernel_rfl))
 f321 := Tryz.func172.trans (congrArg some (by kernel_rfl))
 f322 := Tryz.func173.trans (congrArg some (by kernel_rfl))
 f337 := Tryz.func155.trans (congrArg some (by kernel_rfl))
 f338 := Tryz.func156.trans (congrArg some (by kernel_rfl))
 t0 := Tryz.underlying0
 a0 := Tryz.isAgg0
 z0 := Tryz.sizeOf0
 v0 := Tryz.zeroValue0
 t2 := Tryz.underlying2
 a2 := Tryz.isAgg2
 z2 := Tryz.sizeOf2
 v2 := Tryz.zeroValue2
 t3 := Tryz.underlying3
 a3 := Tryz.isAgg3
 z3 := Tryz.sizeOf3
 v3 := Tryz.zeroValue3
 t4 := Tryz.underlying4
 a4 := Tryz.isAgg4
 z4 := Tryz.sizeOf4
 v4 := Tryz.zeroValue4
 t5 := Tryz.underlying5
 a5 := Tryz.isAgg5
 z5 := Tryz.sizeOf5
 v5 := Tryz.zeroValue5
 t9 := Tryz.underlying9
 a9 := Tryz.isAgg9
 z9 := Tryz.sizeOf9
 v9 := Tryz.zeroValue9
 t20 := Tryz.underlying20
 a20 := Tryz.isAgg20
 z20 := Tryz.sizeOf20
 v20 := Tryz.zeroValue20
 t21 := Tryz.underlying21
 a21 := Tryz.isAgg21
 z21 := Tryz.sizeOf21
 v21 := Tryz.zeroValue21
 t37 := Tryz.underlying48
 a37 := Tryz.isAgg48
 z37 := Tryz.sizeOf48
 v37 := Tryz.zeroValue48
 t46 := Tryz.underlying211
 a46 := Tryz.isAgg211
 z46 := Tryz.sizeOf211
 v46 := Tryz.zeroValue211
 t51 := Tryz.underlying208
 a51 := Tryz.isAgg208
 z51 := Tryz.sizeOf208
 v51 := Tryz.zeroValue208
 t53 := Tryz.underlying173
 a53 := Tryz.isAgg173
 z53 := Tryz.sizeOf173
 v53 := Tryz.zeroValue173
 t75 := Tryz.underlying105
 a75 := Tryz.isAgg105
 z75 := Tryz.sizeOf105
 v75 := Tryz.zeroValue105
 t85 := Tryz.underlying185
 a85 := Tryz.isAgg185
 z85 := Tryz.sizeOf185
 v85 := Tryz.zeroValue185
 t127 := Tryz.underlying139
 a127 := Tryz.isAgg139
 z127 := Tryz.sizeOf139
 v127 := Tryz.zeroValue139
 t143 := Tryz.underlying243
 a143 := Tryz.isAgg243
 z143 := Tryz.sizeOf243
 v143 := Tryz.zeroValue243
 t145 := Tryz.underlying245
 a145 := Tryz.isAgg245
 z145 := Tryz.sizeOf245
 v145 := Tryz.zeroValue245
 t167 := Tryz.underlying221
 a167 := Tryz.isAgg221
 z167 := Tryz.sizeOf221
 v167 := Tryz.zeroValue221
 t168 := Tryz.underlying224
 a168 := Tryz.isAgg224
 z168 := Tryz.sizeOf224
 v168 := Tryz.zeroValue224
 t171 := Tryz.underlying172
 a171 := Tryz.isAgg172
 z171 := Tryz.sizeOf172
 v171 := Tryz.zeroValue172
 t173 := Tryz.underlying176
 a173 := Tryz.isAgg176
 z173 := Tryz.sizeOf176
 v173 := Tryz.zeroValue176
 t175 := Tryz.underlying222
 a175 := Tryz.isAgg222
 z175 := Tryz.sizeOf222
 v175 := Tryz.zeroValue222
 t210 := Tryz.underlying240
 a210 := Tryz.isAgg240
 z210 := Tryz.sizeOf240
 v210 := Tryz.zeroValue240
 t212 := Tryz.underlying207
 a212 := Tryz.isAgg207
 z212 := Tryz.sizeOf207
 v212 := Tryz.zeroValue207
 t213 := Tryz.underlying209
 a213 := Tryz.isAgg209
 z213 := Tryz.sizeOf209
 t232 := Tryz.underlying229
 a232 := Tryz.isAgg229
 z232 := Tryz.sizeOf229
 v232 := Tryz.zeroValue229
 t233 := Tryz.underlying230
 a233 := Tryz.isAgg230
 z233 := Tryz.sizeOf230
 v233 := Tryz.zeroValue230
 g15 := by kernel_rfl
 g16 := by kernel_rfl
 g17 := by kernel_rfl
 g18 := by kernel_rfl
 g19 := by kernel_rfl
 t80 := Tryz.underlying108
 a80 := Tryz.isAgg108
 z80 := Tryz.sizeOf108
 v80 := Tryz.zeroValue108
 i0 := by kernel_rfl
 i2 := by kernel_rfl
 i3 := by kernel_rfl
 i4 := by kernel_rfl
 i5 := by kernel_rfl
 i9 := by kernel_rfl
 i20 := by kernel_rfl
 i21 := by kernel_rfl
 i37 := by kernel_rfl
 i46 := by kernel_rfl
 i51 := by kernel_rfl
 i53 := by kernel_rfl
 i75 := by kernel_rfl
 i80 := by kernel_rfl
 i85 := by kernel_rfl
 i127 := by kernel_rfl
 i143 := by kernel_rfl
 i145 := by kernel_rfl
 i167 := by kernel_rfl
 i168 := by kernel_rfl
 i171 := by kernel_rfl
 i173 := by kernel_rfl
 i175 := by kernel_rfl
 i210 := by kernel_rfl
 i212 := by kernel_rfl
 i232 := by kernel_rfl
 i233 := by kernel_rfl
 m15 := by kernel_rfl
 m16 := by kernel_rfl
 m17 := by kernel_rfl
 m18 := by kernel_rfl
 m19 := by kernel_rfl
 c0 := by kernel_rfl
 c2 := by kernel_rfl
 c3 := by kernel_rfl
 c4 := by kernel_rfl
 c5 := by kernel_rfl
 c9 := by kernel_rfl
 c20 := by kernel_rfl
 c21 := by kernel_rfl
 c37 := by kernel_rfl
 c46 := by kernel_rfl
 c51 := by kernel_rfl
 c53 := by kernel_rfl
 c75 := by kernel_rfl
 c80 := by kernel_rfl
 c85 := by kernel_rfl
 c127 := by kernel_rfl
 c143 := by kernel_rfl
 c145 := by kernel_rfl
 c167 := by kernel_rfl
 c168 := by kernel_rfl
 c171 := by kernel_rfl
 c173 := by kernel_rfl
 c175 := by kernel_rfl
 c210 := by kernel_rfl
 c212 := by kernel_rfl
 c213 := by kernel_rfl
 c232 := by kernel_rfl
 c233 := by kernel_rfl }
def Tryz.lays101_ren : Go.Shelf.Ren := ⟨fun | 101 => 115 | 208 => 146 | 206 => 162 | n => n, fun | 9 => 9 | 4 => 4 | 3 => 3 | n => n, fun | n => n⟩
theorem Tryz.lays101 : Go.Proofs.Lays.n101 Tryz.prog Tryz.lays101_ren := {
 mixed := by kernel_rfl
 f101 := Tryz.func115.trans (congrArg some (by kernel_rfl))
 f206 := Tryz.func162.trans (congrArg some (by kernel_rfl))
 f208 := Tryz.func146.trans (congrArg some (by kernel_rfl))
 t3 := Tryz.underlying3
 a3 := Tryz.isAgg3
 z3 := Tryz.sizeOf3
 v3 := Tryz.zeroValue3
 t4 := Tryz.underlying4
 a4 := Tryz.isAgg4
 z4 := Tryz.sizeOf4
 v4 := Tryz.zeroValue4
 t9 := Tryz.underlying9
 a9 := Tryz.isAgg9
 z9 := Tryz.sizeOf9
 v9 := Tryz.zeroValue9 }
open Go.RowKit Go.Lib in
theorem Tryz.strings_TrimPrefix (s p : ByteArray) (w : World) :
 Calls Tryz.prog 115 #[.string s, .string p] w fun e w' => e = .returned (.string ⟨(Lib.trimPrefix s.data.toList p.data.toList).toArray⟩) ∧ w' = w := Any.strings_TrimPrefix Tryz.lays101 s p w
def Tryz.lays146_ren : Go.Shelf.Ren := ⟨fun | 146 => 53 | 221 => 83 | 268 => 111 | 138 => 112 | 143 => 113 | 195 => 142 | 197 => 143 | 218 => 144 | 219 => 145 | 260 => 157 | 217 => 158 | 225 => 159 | 224 => 160 | 267 => 161 | 266 => 170 | 314 => 171 | n => n, fun | 9 => 9 | 31 => 66 | 3 => 3 | 4 => 4 | 0 => 0 | 105 => 213 | 21 => 21 | 5 => 5 | 46 => 211 | 119 => 231 | 139 => 234 | 138 => 233 | 146 => 235 | 51 => 208 | n => n, fun | 1 => 1 | 3 => 4 | 4 => 5 | n => n⟩
theorem Tryz.lays146 : Go.Proofs.Lays.n146 Tryz.prog Tryz.lays146_ren := {
 mixed := by kernel_rfl
 f138 := Tryz.func112.trans (congrArg some (by kernel_rfl))
 f143 := Tryz.func113.trans (congrArg some (by kernel_rfl))
 f146 := Tryz.func53.trans (congrArg some (by kernel_rfl))
 f195 := Tryz.func142.trans (congrArg some (by kernel_rfl))
 f197 := Tryz.func143.trans (congrArg some (by kernel_rfl))
 f217 := Tryz.func158.trans (congrArg some (by kernel_rfl))
 f218 := Tryz.func144.trans (congrArg some (by kernel_rfl))
 f219 := Tryz.func145.trans (congrArg some (by kernel_rfl))
 f221 := Tryz.func83.trans (congrArg some (by kernel_rfl))
 f224 := Tryz.func160.trans (congrArg some (by kernel_rfl))
 f225 := Tryz.func159.trans (congrArg some (by kernel_rfl))
 f260 := Tryz.func157.trans (congrArg some (by kernel_rfl))
 f266 := Tryz.func170.trans (congrArg some (by kernel_rfl))
 f267 := Tryz.func161.trans (congrArg some (by kernel_rfl))
 f268 := Tryz.func111.trans (congrArg some (by kernel_rfl))
 f314 := Tryz.func171.trans (congrArg some (by kernel_rfl))
 t0 := Tryz.underlying0
 a0 := Tryz.isAgg0
 z0 := Tryz.sizeOf0
 v0 := Tryz.zeroValue0
 t3 := Tryz.underlying3
 a3 := Tryz.isAgg3
 z3 := Tryz.sizeOf3
 v3 := Tryz.zeroValue3
 t4 := Tryz.underlying4
 a4 := Tryz.isAgg4
 z4 := Tryz.sizeOf4
 v4 := Tryz.zeroValue4
 t5 := Tryz.underlying5
 a5 := Tryz.isAgg5
 z5 := Tryz.sizeOf5
 v5 := Tryz.zeroValue5
 t9 := Tryz.underlying9
 a9 := Tryz.isAgg9
 z9 := Tryz.sizeOf9
 v9 := Tryz.zeroValue9
 t21 := Tryz.underlying21
 a21 := Tryz.isAgg21
 z21 := Tryz.sizeOf21
 v21 := Tryz.zeroValue21
 t31 := Tryz.underlying66
 a31 := Tryz.isAgg66
 z31 := Tryz.sizeOf66
 v31 := Tryz.zeroValue66
 t46 := Tryz.underlying211
 a46 := Tryz.isAgg211
 z46 := Tryz.sizeOf211
 v46 := Tryz.zeroValue211
 t51 := Tryz.underlying208
 a51 := Tryz.isAgg208
 z51 := Tryz.sizeOf208
 v51 := Tryz.zeroValue208
 t105 := Tryz.underlying213
 a105 := Tryz.isAgg213
 z105 := Tryz.sizeOf213
 v105 := Tryz.zeroValue213
 t119 := Tryz.underlying231
 a119 := Tryz.isAgg231
 z119 := Tryz.sizeOf231
 t138 := Tryz.underlying233
 a138 := Tryz.isAgg233
 z138 := Tryz.sizeOf233
 v138 := Tryz.zeroValue233
 t139 := Tryz.underlying234
 a139 := Tryz.isAgg234
 z139 := Tryz.sizeOf234
 v139 := Tryz.zeroValue234
 t146 := Tryz.underlying235
 a146 := Tryz.isAgg235
 z146 := Tryz.sizeOf235
 v146 := Tryz.zeroValue235
 g1 := by kernel_rfl
 g3 := by kernel_rfl
 g4 := by kernel_rfl }
open Go.RowKit Go.Lib in
theorem Tryz.strings_Split (s sep : ByteArray) (m : Int) (w : World) (hs : s.size < 4294967281) (hm : w.cell? ⟨1, 0, none⟩ = some (.int .i64 m)) (h1 : 1 ≤ sep.size) :
 Calls Tryz.prog 53 #[.string s, .string sep] w fun e w' =>
 e = .returned (.slice (some ⟨w.heap.size, 0, none⟩) (Lib.countB s sep + 1) (Lib.countB s sep + 1)) ∧ w' = w.alloc (.cells ((Lib.splitB sep 0 (Lib.countB s sep) s).map Value.string).toArray 9) := Any.strings_Split Tryz.lays146 (by kernel_rfl) s sep m w hs hm h1
def Tryz.laysM146_ren : Go.Shelf.Ren := ⟨fun | 146 => 53 | 221 => 83 | 268 => 111 | 138 => 112 | 143 => 113 | 195 => 142 | 197 => 143 | 218 => 144 | 219 => 145 | 260 => 157 | 217 => 158 | 225 => 159 | 224 => 160 | 267 => 161 | 266 => 170 | 314 => 171 | n => n, fun | 9 => 9 | 31 => 66 | 3 => 3 | 4 => 4 | 0 => 0 | 105 => 213 | 21 => 21 | 5 => 5 | 46 => 211 | 119 => 231 | 139 => 234 | 138 => 233 | 146 => 235 | 51 => 208 | n => n, fun | 1 => 1 | 3 => 4 | 4 => 5 | n => n⟩
theorem Tryz.laysM146 : Go.Proofs.LaysM.n146 Tryz.prog Tryz.laysM146_ren := {
 mixed := by kernel_rfl
 f138 := Tryz.func112.trans (congrArg some (by kernel_rfl))
 f143 := Tryz.func113.trans (congrArg some (by kernel_rfl))
 f146 := Tryz.func53.trans (congrArg some (by kernel_rfl))
 f195 := Tryz.func142.trans (congrArg some (by kernel_rfl))
 f197 := Tryz.func143.trans (congrArg some (by kernel_rfl))
 f217 := Tryz.func158.trans (congrArg some (by kernel_rfl))
 f218 := Tryz.func144.trans (congrArg some (by kernel_rfl))
 f219 := Tryz.func145.trans (congrArg some (by kernel_rfl))
 f221 := Tryz.func83.trans (congrArg some (by kernel_rfl))
 f224 := Tryz.func160.trans (congrArg some (by kernel_rfl))
 f225 := Tryz.func159.trans (congrArg some (by kernel_rfl))
 f260 := Tryz.func157.trans (congrArg some (by kernel_rfl))
 f266 := Tryz.func170.trans (congrArg some (by kernel_rfl))
 f267 := Tryz.func161.trans (congrArg some (by kernel_rfl))
 f268 := Tryz.func111.trans (congrArg some (by kernel_rfl))
 f314 := Tryz.func171.trans (congrArg some (by kernel_rfl))
 t0 := Tryz.underlying0
 a0 := Tryz.isAgg0
 z0 := Tryz.sizeOf0
 v0 := Tryz.zeroValue0
 t3 := Tryz.underlying3
 a3 := Tryz.isAgg3
 z3 := Tryz.sizeOf3
 v3 := Tryz.zeroValue3
 t4 := Tryz.underlying4
 a4 := Tryz.isAgg4
 z4 := Tryz.sizeOf4
 v4 := Tryz.zeroValue4
 t5 := Tryz.underlying5
 a5 := Tryz.isAgg5
 z5 := Tryz.sizeOf5
 v5 := Tryz.zeroValue5
 t9 := Tryz.underlying9
 a9 := Tryz.isAgg9
 z9 := Tryz.sizeOf9
 v9 := Tryz.zeroValue9
 t21 := Tryz.underlying21
 a21 := Tryz.isAgg21
 z21 := Tryz.sizeOf21
 v21 := Tryz.zeroValue21
 t31 := Tryz.underlying66
 a31 := Tryz.isAgg66
 z31 := Tryz.sizeOf66
 v31 := Tryz.zeroValue66
 t46 := Tryz.underlying211
 a46 := Tryz.isAgg211
 z46 := Tryz.sizeOf211
 v46 := Tryz.zeroValue211
 t51 := Tryz.underlying208
 a51 := Tryz.isAgg208
 z51 := Tryz.sizeOf208
 v51 := Tryz.zeroValue208
 t105 := Tryz.underlying213
 a105 := Tryz.isAgg213
 z105 := Tryz.sizeOf213
 v105 := Tryz.zeroValue213
 t119 := Tryz.underlying231
 a119 := Tryz.isAgg231
 z119 := Tryz.sizeOf231
 t138 := Tryz.underlying233
 a138 := Tryz.isAgg233
 z138 := Tryz.sizeOf233
 v138 := Tryz.zeroValue233
 t139 := Tryz.underlying234
 a139 := Tryz.isAgg234
 z139 := Tryz.sizeOf234
 v139 := Tryz.zeroValue234
 t146 := Tryz.underlying235
 a146 := Tryz.isAgg235
 z146 := Tryz.sizeOf235
 v146 := Tryz.zeroValue235
 g1 := by kernel_rfl
 g3 := by kernel_rfl
 g4 := by kernel_rfl
 i0 := by kernel_rfl
 i3 := by kernel_rfl
 i4 := by kernel_rfl
 i5 := by kernel_rfl
 i9 := by kernel_rfl
 i21 := by kernel_rfl
 i31 := by kernel_rfl
 i46 := by kernel_rfl
 i51 := by kernel_rfl
 i105 := by kernel_rfl
 i138 := by kernel_rfl
 i139 := by kernel_rfl
 i146 := by kernel_rfl
 m1 := by kernel_rfl
 s1_3 := fun w h => Go.Proofs.cell_of_shapedOpen_int (zero := #[.int .i64 0]) (t := 3) h (of_decide_eq_true (by kernel_rfl)) (by kernel_rfl) rfl (by kernel_rfl) (by kernel_rfl) Tryz.underlying3
 m3 := by kernel_rfl
 m4 := by kernel_rfl }
end Go.Proofs
