/- The contracts of the shelf at this dump that the walks use, in plain words (the kit's lay-plain tool wrote them; a helper of mine kept those that are used). -/
import Derived.Shelf.Strings.Builder1
import Derived.Shelf.Strings.Builder2
import Derived.Shelf.Strings.OnBuilder
import Derived.Shelf.Small.Strs
import Derived.Shelf.Strings.BuilderF
import Derived.Shelf.Strings.BuilderK
import Derived.Shelf.Strings.BuilderRune
import Derived.Shelf.Utf8.RuneCount
import Derived.Shelf.Strings.Builder2Cap
import Derived.Shelf.Strconv.Atoi
import Derived.Shelf.Strconv.Itoa0
import Derived.Shelf.Strconv.Itoa1
import Derived.Shelf.LaysM
import Derived.Shelf.Strconv.Itoa2
import Derived.Shelf.Strconv.Itoa3
import Derived.Shelf.Strconv.Itoa4
import Derived.Shelf.Strconv.AtoiErrFast
import Derived.Shelf.Strconv.ParseIntEmpty
import Derived.Shelf.Strconv.AtoiFail
import Derived.Shelf.Strconv.Clone
import Derived.Shelf.Strconv.SyntaxError
import Derived.Shelf.LaysC
import Derived.Shelf.Strconv.ToError
import Derived.Shelf.Strconv.AtoiErr
import Derived.Shelf.Strconv.ErrVar
import Derived.Shelf.Strconv.Lower
import Derived.Shelf.Strconv.ParseUint10
import Derived.Shelf.Strconv.ParseUint10Empty
import Derived.Shelf.Strconv.ParseUint10Any
import Derived.Shelf.Strconv.ParseInt10
import Derived.Shelf.Strconv.AtoiLong
import Derived.Shelf.Strconv.AtoiInnerAll
import Derived.Shelf.Strconv.RangeError
import Derived.Shelf.Strconv.ToErrorRange
import Derived.Shelf.Strconv.AtoiAll
import Derived.Shelf.Strconv.ErrVarAll
import Derived.Shelf.Strconv.ParseUintEmpty
import Derived.Shelf.Strconv.ParseUint10b64
import Derived.Shelf.Strconv.ParseUint10b32
import Derived.Shelf.Strconv.ParseUint10b16
import Derived.Shelf.Strconv.ParseUint10b8
import Derived.Shelf.Strconv.ParseUint10At
import Derived.Shelf.Strconv.ParseInt10At64
import Derived.Shelf.Strconv.ParseInt10At32
import Derived.Shelf.Strconv.ParseInt10At16
import Derived.Shelf.Strconv.ParseInt10At8
import Derived.Shelf.Strconv.ParseInt10All
import Derived.Shelf.Strconv.ParseIntPublic10
import Derived.Shelf.Strconv.ErrVarParseInt
import Derived.Shelf.Strings.Search1
import Derived.Shelf.Strings.Search2
import Derived.Shelf.Strings.Search3
import Derived.Shelf.Strings.Count
import Derived.Shelf.Strings.Shaped
import Derived.Shelf.Strings.Prefix
import Derived.Shelf.Strings.Split
import Derived.Shelf.Strings.SplitShaped
import Derived.Shelf.Unicode.Decode
import Derived.Shelf.Strings.RuneCount
import Derived.Shelf.Strings.Explode
import Derived.Shelf.Unicode.DecodeSlow
import Derived.Shelf.Unicode.DecodeAny
import Derived.Shelf.Strings.BuilderCap
import Derived.Test.YtjefbgfohijaoaaGreatDoorProg
namespace Go.Proofs
open Go.Shelf
def Tryz.lays169_ren : Go.Shelf.Ren := ⟨fun | 169 => 19 | n => n, fun | 70 => 48 | 9 => 9 | 0 => 0 | 72 => 51 | 37 => 49 | 127 => 87 | 3 => 3 | 5 => 5 | n => n, fun | n => n⟩
theorem Tryz.Builder_Extra_169 : Builder.Extra Tryz.prog Tryz.lays169_ren := {
 sizeBuilder := by kernel_rfl
 liesBuilder := by kernel_rfl
 t5 := Tryz.underlying5
 a5 := Tryz.isAgg5
 z5 := Tryz.sizeOf5
 v5 := Tryz.zeroValue5
 infoByte := by kernel_rfl
 cellsByte := by kernel_rfl
 sizeByte := by kernel_rfl
 neB5 := by decide }
def Tryz.lays156_ren : Go.Shelf.Ren := ⟨fun | 156 => 42 | 165 => 59 | 166 => 41 | 169 => 19 | 240 => 58 | 241 => 80 | 276 => 79 | 277 => 98 | n => n, fun | 31 => 56 | 9 => 9 | 3 => 3 | 4 => 4 | 0 => 0 | 20 => 20 | 72 => 51 | 76 => 83 | 70 => 48 | 37 => 49 | 75 => 67 | 127 => 87 | 164 => 114 | 5 => 5 | 80 => 59 | n => n, fun | n => n⟩
theorem Tryz.lays156 : Go.Proofs.Lays.n156 Tryz.prog Tryz.lays156_ren := {
 mixed := by kernel_rfl
 f156 := Tryz.func42.trans (congrArg some (by kernel_rfl))
 f165 := Tryz.func59.trans (congrArg some (by kernel_rfl))
 f166 := Tryz.func41.trans (congrArg some (by kernel_rfl))
 f169 := Tryz.func19.trans (congrArg some (by kernel_rfl))
 f240 := Tryz.func58.trans (congrArg some (by kernel_rfl))
 f241 := Tryz.func80.trans (congrArg some (by kernel_rfl))
 f276 := Tryz.func79.trans (congrArg some (by kernel_rfl))
 f277 := Tryz.func98.trans (congrArg some (by kernel_rfl))
 t0 := Tryz.underlying0
 a0 := Tryz.isAgg0
 z0 := Tryz.sizeOf0
 v0 := Tryz.zeroValue0
 t3 := Tryz.underlying3
 a3 := Tryz.isAgg3
 z3 := Tryz.sizeOf3
 v3 := Tryz.zeroValue3
 t4 := Tryz.underlying4
 a4 := Tryz.isAgg4
 z4 := Tryz.sizeOf4
 v4 := Tryz.zeroValue4
 t9 := Tryz.underlying9
 a9 := Tryz.isAgg9
 z9 := Tryz.sizeOf9
 v9 := Tryz.zeroValue9
 t20 := Tryz.underlying20
 a20 := Tryz.isAgg20
 z20 := Tryz.sizeOf20
 v20 := Tryz.zeroValue20
 t31 := Tryz.underlying56
 a31 := Tryz.isAgg56
 z31 := Tryz.sizeOf56
 v31 := Tryz.zeroValue56
 t37 := Tryz.underlying49
 a37 := Tryz.isAgg49
 z37 := Tryz.sizeOf49
 v37 := Tryz.zeroValue49
 t70 := Tryz.underlying48
 a70 := Tryz.isAgg48
 z70 := Tryz.sizeOf48
 v70 := Tryz.zeroValue48
 t72 := Tryz.underlying51
 a72 := Tryz.isAgg51
 z72 := Tryz.sizeOf51
 v72 := Tryz.zeroValue51
 t75 := Tryz.underlying67
 a75 := Tryz.isAgg67
 z75 := Tryz.sizeOf67
 v75 := Tryz.zeroValue67
 t76 := Tryz.underlying83
 a76 := Tryz.isAgg83
 z76 := Tryz.sizeOf83
 v76 := Tryz.zeroValue83
 t127 := Tryz.underlying87
 a127 := Tryz.isAgg87
 z127 := Tryz.sizeOf87
 v127 := Tryz.zeroValue87
 t164 := Tryz.underlying114
 a164 := Tryz.isAgg114
 z164 := Tryz.sizeOf114
 v164 := Tryz.zeroValue114 }
theorem Tryz.Builder_Extra_156 : Builder.Extra Tryz.prog Tryz.lays156_ren := {
 sizeBuilder := by kernel_rfl
 liesBuilder := by kernel_rfl
 t5 := Tryz.underlying5
 a5 := Tryz.isAgg5
 z5 := Tryz.sizeOf5
 v5 := Tryz.zeroValue5
 infoByte := by kernel_rfl
 cellsByte := by kernel_rfl
 sizeByte := by kernel_rfl
 neB5 := by decide }
open Go.RowKit in
theorem Tryz.strings_Join_none (a : Option Addr) (c : Nat) (sep : ByteArray) (w : World) :
  Calls Tryz.prog 42 #[.slice a 0 c, .string sep] w fun e w' => e = .returned (.string ⟨#[]⟩) /\ w' = w := Any.strings_Join_none Tryz.lays156 Tryz.Builder_Extra_156 a c sep w
open Go.RowKit in
theorem Tryz.strings_Join (bk o c : Nat) (xs : List ByteArray) (sep : ByteArray) (w : World) (hcells : ∀ (j : Nat) x, xs[j]? = some x -> w.cell? ⟨bk, o + j, none⟩ = some (.string x)) (hbk : bk < w.heap.size) (hN : xs.length <= 140737488355328) (hcap : xs.length <= c) (hlen : (Lib.join (xs.map (·.data.toList)) sep.data.toList).length <= 140737488355328) :
  Calls Tryz.prog 42 #[.slice (some ⟨bk, o, none⟩) xs.length c, .string sep] w fun e w' => e = .returned (.string ⟨(Lib.join (xs.map (·.data.toList)) sep.data.toList).toArray⟩) /\ Below w.heap.size w w' := Any.strings_Join Tryz.lays156 Tryz.Builder_Extra_156 bk o c xs sep w hcells hbk hN hcap hlen
def Tryz.lays137_ren : Go.Shelf.Ren := ⟨fun | 137 => 107 | 217 => 103 | 266 => 114 | n => n, fun | 9 => 9 | 5 => 5 | 3 => 3 | n => n, fun | n => n⟩
theorem Tryz.lays137 : Go.Proofs.Lays.n137 Tryz.prog Tryz.lays137_ren := {
 mixed := by kernel_rfl
 f137 := Tryz.func107.trans (congrArg some (by kernel_rfl))
 f217 := Tryz.func103.trans (congrArg some (by kernel_rfl))
 f266 := Tryz.func114.trans (congrArg some (by kernel_rfl))
 t3 := Tryz.underlying3
 a3 := Tryz.isAgg3
 z3 := Tryz.sizeOf3
 v3 := Tryz.zeroValue3
 t5 := Tryz.underlying5
 a5 := Tryz.isAgg5
 z5 := Tryz.sizeOf5
 v5 := Tryz.zeroValue5
 t9 := Tryz.underlying9
 a9 := Tryz.isAgg9
 z9 := Tryz.sizeOf9
 v9 := Tryz.zeroValue9 }
open Go.RowKit in
theorem Tryz.strings_IndexByte (s : ByteArray) (c : Int) (w : World) :
  Calls Tryz.prog 107 #[.string s, .int .u8 c] w fun e w' => e = .returned (.int .i64 (Lib.indexByte s.data.toList c.toNat.toUInt8)) /\ w' = w := Any.strings_IndexByte Tryz.lays137 s c w
def Tryz.laysM171_ren : Go.Shelf.Ren := ⟨fun | 171 => 43 | 243 => 60 | 246 => 45 | 283 => 63 | 284 => 64 | 285 => 65 | 286 => 66 | 129 => 84 | 317 => 83 | 318 => 85 | 319 => 86 | 320 => 87 | 337 => 100 | 338 => 101 | n => n, fun | 3 => 3 | 9 => 9 | 2 => 2 | 4 => 4 | 171 => 97 | 0 => 0 | 53 => 98 | 37 => 49 | 5 => 5 | 173 => 101 | 212 => 123 | 51 => 124 | 20 => 20 | 213 => 125 | 46 => 86 | 232 => 148 | 233 => 149 | n => n, fun | 17 => 2 | 18 => 6 | 19 => 7 | n => n⟩
theorem Tryz.laysM171 : Go.Proofs.LaysM.n171 Tryz.prog Tryz.laysM171_ren := {
 mixed := by kernel_rfl
 f129 := Tryz.func84.trans (congrArg some (by kernel_rfl))
 f171 := Tryz.func43.trans (congrArg some (by kernel_rfl))
 f243 := Tryz.func60.trans (congrArg some (by kernel_rfl))
 f246 := Tryz.func45.trans (congrArg some (by kernel_rfl))
 f283 := Tryz.func63.trans (congrArg some (by kernel_rfl))
 f284 := Tryz.func64.trans (congrArg some (by kernel_rfl))
 f285 := Tryz.func65.trans (congrArg some (by kernel_rfl))
 f286 := Tryz.func66.trans (congrArg some (by kernel_rfl))
 f317 := Tryz.func83.trans (congrArg some (by kernel_rfl))
 f318 := Tryz.func85.trans (congrArg some (by kernel_rfl))
 f319 := Tryz.func86.trans (congrArg some (by kernel_rfl))
 f320 := Tryz.func87.trans (congrArg some (by kernel_rfl))
 f337 := Tryz.func100.trans (congrArg some (by kernel_rfl))
 f338 := Tryz.func101.trans (congrArg some (by kernel_rfl))
 t0 := Tryz.underlying0
 a0 := Tryz.isAgg0
 z0 := Tryz.sizeOf0
 v0 := Tryz.zeroValue0
 t2 := Tryz.underlying2
 a2 := Tryz.isAgg2
 z2 := Tryz.sizeOf2
 v2 := Tryz.zeroValue2
 t3 := Tryz.underlying3
 a3 := Tryz.isAgg3
 z3 := Tryz.sizeOf3
 v3 := Tryz.zeroValue3
 t4 := Tryz.underlying4
 a4 := Tryz.isAgg4
 z4 := Tryz.sizeOf4
 v4 := Tryz.zeroValue4
 t5 := Tryz.underlying5
 a5 := Tryz.isAgg5
 z5 := Tryz.sizeOf5
 v5 := Tryz.zeroValue5
 t9 := Tryz.underlying9
 a9 := Tryz.isAgg9
 z9 := Tryz.sizeOf9
 v9 := Tryz.zeroValue9
 t20 := Tryz.underlying20
 a20 := Tryz.isAgg20
 z20 := Tryz.sizeOf20
 v20 := Tryz.zeroValue20
 t37 := Tryz.underlying49
 a37 := Tryz.isAgg49
 z37 := Tryz.sizeOf49
 v37 := Tryz.zeroValue49
 t46 := Tryz.underlying86
 a46 := Tryz.isAgg86
 z46 := Tryz.sizeOf86
 v46 := Tryz.zeroValue86
 t51 := Tryz.underlying124
 a51 := Tryz.isAgg124
 z51 := Tryz.sizeOf124
 v51 := Tryz.zeroValue124
 t53 := Tryz.underlying98
 a53 := Tryz.isAgg98
 z53 := Tryz.sizeOf98
 v53 := Tryz.zeroValue98
 t171 := Tryz.underlying97
 a171 := Tryz.isAgg97
 z171 := Tryz.sizeOf97
 v171 := Tryz.zeroValue97
 t173 := Tryz.underlying101
 a173 := Tryz.isAgg101
 z173 := Tryz.sizeOf101
 v173 := Tryz.zeroValue101
 t212 := Tryz.underlying123
 a212 := Tryz.isAgg123
 z212 := Tryz.sizeOf123
 v212 := Tryz.zeroValue123
 t213 := Tryz.underlying125
 a213 := Tryz.isAgg125
 z213 := Tryz.sizeOf125
 t232 := Tryz.underlying148
 a232 := Tryz.isAgg148
 z232 := Tryz.sizeOf148
 v232 := Tryz.zeroValue148
 t233 := Tryz.underlying149
 a233 := Tryz.isAgg149
 z233 := Tryz.sizeOf149
 v233 := Tryz.zeroValue149
 g17 := by kernel_rfl
 g18 := by kernel_rfl
 g19 := by kernel_rfl
 i0 := by kernel_rfl
 i2 := by kernel_rfl
 i3 := by kernel_rfl
 i4 := by kernel_rfl
 i5 := by kernel_rfl
 i9 := by kernel_rfl
 i20 := by kernel_rfl
 i37 := by kernel_rfl
 i46 := by kernel_rfl
 i51 := by kernel_rfl
 i53 := by kernel_rfl
 i171 := by kernel_rfl
 i173 := by kernel_rfl
 i212 := by kernel_rfl
 i232 := by kernel_rfl
 i233 := by kernel_rfl
 m17 := by kernel_rfl
 m18 := by kernel_rfl
 m19 := by kernel_rfl }
open Go.RowKit Go.Sort Go.Lib in
theorem Tryz.strconv_Itoa (n : Int) (h0 : -9223372036854775808 ≤ n) (h1 : n ≤ 9223372036854775807) (w : World) (htab : Lib.TabIs Tryz.prog w "internal/strconv.uint64pow10" .u64 Lib.pow10Tab) :
  Calls Tryz.prog 43 #[.int .i64 n] w fun e w' => e = .returned (.string ⟨(Lib.itoa n).toArray⟩) /\ ∃ k os, w' = grow (w.drewN k) os := Any.strconv_Itoa Tryz.laysM171 n h0 h1 w htab
def Tryz.laysM173_ren : Go.Shelf.Ren := ⟨fun | 173 => 18 | 246 => 45 | 283 => 63 | 284 => 64 | 285 => 65 | 286 => 66 | 129 => 84 | 317 => 83 | 318 => 85 | 319 => 86 | 320 => 87 | 337 => 100 | 338 => 101 | n => n, fun | 2 => 2 | 3 => 3 | 9 => 9 | 4 => 4 | 171 => 97 | 0 => 0 | 53 => 98 | 37 => 49 | 5 => 5 | 173 => 101 | 212 => 123 | 51 => 124 | 20 => 20 | 213 => 125 | 46 => 86 | 232 => 148 | 233 => 149 | n => n, fun | 17 => 2 | 18 => 6 | 19 => 7 | n => n⟩
theorem Tryz.laysM173 : Go.Proofs.LaysM.n173 Tryz.prog Tryz.laysM173_ren := {
 mixed := by kernel_rfl
 f129 := Tryz.func84.trans (congrArg some (by kernel_rfl))
 f173 := Tryz.func18.trans (congrArg some (by kernel_rfl))
 f246 := Tryz.func45.trans (congrArg some (by kernel_rfl))
 f283 := Tryz.func63.trans (congrArg some (by kernel_rfl))
 f284 := Tryz.func64.trans (congrArg some (by kernel_rfl))
 f285 := Tryz.func65.trans (congrArg some (by kernel_rfl))
 f286 := Tryz.func66.trans (congrArg some (by kernel_rfl))
 f317 := Tryz.func83.trans (congrArg some (by kernel_rfl))
 f318 := Tryz.func85.trans (congrArg some (by kernel_rfl))
 f319 := Tryz.func86.trans (congrArg some (by kernel_rfl))
 f320 := Tryz.func87.trans (congrArg some (by kernel_rfl))
 f337 := Tryz.func100.trans (congrArg some (by kernel_rfl))
 f338 := Tryz.func101.trans (congrArg some (by kernel_rfl))
 t0 := Tryz.underlying0
 a0 := Tryz.isAgg0
 z0 := Tryz.sizeOf0
 v0 := Tryz.zeroValue0
 t2 := Tryz.underlying2
 a2 := Tryz.isAgg2
 z2 := Tryz.sizeOf2
 v2 := Tryz.zeroValue2
 t3 := Tryz.underlying3
 a3 := Tryz.isAgg3
 z3 := Tryz.sizeOf3
 v3 := Tryz.zeroValue3
 t4 := Tryz.underlying4
 a4 := Tryz.isAgg4
 z4 := Tryz.sizeOf4
 v4 := Tryz.zeroValue4
 t5 := Tryz.underlying5
 a5 := Tryz.isAgg5
 z5 := Tryz.sizeOf5
 v5 := Tryz.zeroValue5
 t9 := Tryz.underlying9
 a9 := Tryz.isAgg9
 z9 := Tryz.sizeOf9
 v9 := Tryz.zeroValue9
 t20 := Tryz.underlying20
 a20 := Tryz.isAgg20
 z20 := Tryz.sizeOf20
 v20 := Tryz.zeroValue20
 t37 := Tryz.underlying49
 a37 := Tryz.isAgg49
 z37 := Tryz.sizeOf49
 v37 := Tryz.zeroValue49
 t46 := Tryz.underlying86
 a46 := Tryz.isAgg86
 z46 := Tryz.sizeOf86
 v46 := Tryz.zeroValue86
 t51 := Tryz.underlying124
 a51 := Tryz.isAgg124
 z51 := Tryz.sizeOf124
 v51 := Tryz.zeroValue124
 t53 := Tryz.underlying98
 a53 := Tryz.isAgg98
 z53 := Tryz.sizeOf98
 v53 := Tryz.zeroValue98
 t171 := Tryz.underlying97
 a171 := Tryz.isAgg97
 z171 := Tryz.sizeOf97
 v171 := Tryz.zeroValue97
 t173 := Tryz.underlying101
 a173 := Tryz.isAgg101
 z173 := Tryz.sizeOf101
 v173 := Tryz.zeroValue101
 t212 := Tryz.underlying123
 a212 := Tryz.isAgg123
 z212 := Tryz.sizeOf123
 v212 := Tryz.zeroValue123
 t213 := Tryz.underlying125
 a213 := Tryz.isAgg125
 z213 := Tryz.sizeOf125
 t232 := Tryz.underlying148
 a232 := Tryz.isAgg148
 z232 := Tryz.sizeOf148
 v232 := Tryz.zeroValue148
 t233 := Tryz.underlying149
 a233 := Tryz.isAgg149
 z233 := Tryz.sizeOf149
 v233 := Tryz.zeroValue149
 g17 := by kernel_rfl
 g18 := by kernel_rfl
 g19 := by kernel_rfl
 i0 := by kernel_rfl
 i2 := by kernel_rfl
 i3 := by kernel_rfl
 i4 := by kernel_rfl
 i5 := by kernel_rfl
 i9 := by kernel_rfl
 i20 := by kernel_rfl
 i37 := by kernel_rfl
 i46 := by kernel_rfl
 i51 := by kernel_rfl
 i53 := by kernel_rfl
 i171 := by kernel_rfl
 i173 := by kernel_rfl
 i212 := by kernel_rfl
 i232 := by kernel_rfl
 i233 := by kernel_rfl
 m17 := by kernel_rfl
 m18 := by kernel_rfl
 m19 := by kernel_rfl }
open Go.RowKit Go.Sort Go.Lib in
theorem Tryz.strconv_FormatInt_10 (n : Int) (h0 : -9223372036854775808 ≤ n) (h1 : n ≤ 9223372036854775807) (w : World) (htab : Lib.TabIs Tryz.prog w "internal/strconv.uint64pow10" .u64 Lib.pow10Tab) :
  Calls Tryz.prog 18 #[.int .i64 n, .int .i64 10] w fun e w' => e = .returned (.string ⟨(Lib.itoa n).toArray⟩) /\ ∃ k os, w' = grow (w.drewN k) os := Any.strconv_FormatInt_10 Tryz.laysM173 n h0 h1 w htab
def Tryz.laysC245_ren : Go.Shelf.Ren := ⟨fun | 245 => 53 | 279 => 75 | 280 => 76 | 281 => 77 | 282 => 78 | 316 => 96 | 171 => 43 | 205 => 97 | 243 => 60 | 246 => 45 | 283 => 63 | 284 => 64 | 285 => 65 | 286 => 66 | 129 => 84 | 317 => 83 | 318 => 85 | 319 => 86 | 320 => 87 | 337 => 100 | 338 => 101 | n => n, fun | 9 => 9 | 3 => 3 | 75 => 67 | 167 => 108 | 4 => 4 | 168 => 111 | 210 => 137 | 37 => 49 | 0 => 0 | 127 => 87 | 145 => 147 | 143 => 145 | 2 => 2 | 171 => 97 | 53 => 98 | 5 => 5 | 173 => 101 | 212 => 123 | 51 => 124 | 20 => 20 | 213 => 125 | 46 => 86 | 232 => 148 | 233 => 149 | 80 => 59 | n => n, fun | 15 => 3 | 16 => 4 | 17 => 2 | 18 => 6 | 19 => 7 | n => n⟩
theorem Tryz.laysC245 : Go.Proofs.LaysC.n245 Tryz.prog Tryz.laysC245_ren := {
 mixed := by kernel_rfl
 f129 := Tryz.func84.trans (congrArg some (by kernel_rfl))
 f171 := Tryz.func43.trans (congrArg some (by kernel_rfl))
 f205 := Tryz.func97.trans (congrArg some (by kernel_rfl))
 f243 := Tryz.func60.trans (congrArg some (by kernel_rfl))
 f245 := Tryz.func53.trans (congrArg some (by kernel_rfl))
 f246 := Tryz.func45.trans (congrArg some (by kernel_rfl))
 f279 := Tryz.func75.trans (congrArg some (by kernel_rfl))
 f280 := Tryz.func76.trans (congrArg some (by kernel_rfl))
 f281 := Tryz.func77.trans (congrArg some (by kernel_rfl))
 f282 := Tryz.func78.trans (congrArg some (by kernel_rfl))
 f283 := Tryz.func63.trans (congrArg some (by kernel_rfl))
 f284 := Tryz.func64.trans (congrArg some (by kernel_rfl))
 f285 := Tryz.func65.trans (congrArg some (by kernel_rfl))
 f286 := Tryz.func66.trans (congrArg some (by kernel_rfl))
 f316 := Tryz.func96.trans (congrArg some (by kernel_rfl))
 f317 := Tryz.func83.trans (congrArg some (by kernel_rfl))
 f318 := Tryz.func85.trans (congrArg some (by kernel_rfl))
 f319 := Tryz.func86.trans (congrArg some (by kernel_rfl))
 f320 := Tryz.func87.trans (congrArg some (by kernel_rfl))
 f337 := Tryz.func100.trans (congrArg some (by kernel_rfl))
 f338 := Tryz.func101.trans (congrArg some (by kernel_rfl))
 t0 := Tryz.underlying0
 a0 := Tryz.isAgg0
 z0 := Tryz.sizeOf0
 v0 := Tryz.zeroValue0
 t2 := Tryz.underlying2
 a2 := Tryz.isAgg2
 z2 := Tryz.sizeOf2
 v2 := Tryz.zeroValue2
 t3 := Tryz.underlying3
 a3 := Tryz.isAgg3
 z3 := Tryz.sizeOf3
 v3 := Tryz.zeroValue3
 t4 := Tryz.underlying4
 a4 := Tryz.isAgg4
 z4 := Tryz.sizeOf4
 v4 := Tryz.zeroValue4
 t5 := Tryz.underlying5
 a5 := Tryz.isAgg5
 z5 := Tryz.sizeOf5
 v5 := Tryz.zeroValue5
 t9 := Tryz.underlying9
 a9 := Tryz.isAgg9
 z9 := Tryz.sizeOf9
 v9 := Tryz.zeroValue9
 t20 := Tryz.underlying20
 a20 := Tryz.isAgg20
 z20 := Tryz.sizeOf20
 v20 := Tryz.zeroValue20
 t37 := Tryz.underlying49
 a37 := Tryz.isAgg49
 z37 := Tryz.sizeOf49
 v37 := Tryz.zeroValue49
 t46 := Tryz.underlying86
 a46 := Tryz.isAgg86
 z46 := Tryz.sizeOf86
 v46 := Tryz.zeroValue86
 t51 := Tryz.underlying124
 a51 := Tryz.isAgg124
 z51 := Tryz.sizeOf124
 v51 := Tryz.zeroValue124
 t53 := Tryz.underlying98
 a53 := Tryz.isAgg98
 z53 := Tryz.sizeOf98
 v53 := Tryz.zeroValue98
 t75 := Tryz.underlying67
 a75 := Tryz.isAgg67
 z75 := Tryz.sizeOf67
 v75 := Tryz.zeroValue67
 t127 := Tryz.underlying87
 a127 := Tryz.isAgg87
 z127 := Tryz.sizeOf87
 v127 := Tryz.zeroValue87
 t143 := Tryz.underlying145
 a143 := Tryz.isAgg145
 z143 := Tryz.sizeOf145
 v143 := Tryz.zeroValue145
 t145 := Tryz.underlying147
 a145 := Tryz.isAgg147
 z145 := Tryz.sizeOf147
 v145 := Tryz.zeroValue147
 t167 := Tryz.underlying108
 a167 := Tryz.isAgg108
 z167 := Tryz.sizeOf108
 v167 := Tryz.zeroValue108
 t168 := Tryz.underlying111
 a168 := Tryz.isAgg111
 z168 := Tryz.sizeOf111
 v168 := Tryz.zeroValue111
 t171 := Tryz.underlying97
 a171 := Tryz.isAgg97
 z171 := Tryz.sizeOf97
 v171 := Tryz.zeroValue97
 t173 := Tryz.underlying101
 a173 := Tryz.isAgg101
 z173 := Tryz.sizeOf101
 v173 := Tryz.zeroValue101
 t210 := Tryz.underlying137
 a210 := Tryz.isAgg137
 z210 := Tryz.sizeOf137
 v210 := Tryz.zeroValue137
 t212 := Tryz.underlying123
 a212 := Tryz.isAgg123
 z212 := Tryz.sizeOf123
 v212 := Tryz.zeroValue123
 t213 := Tryz.underlying125
 a213 := Tryz.isAgg125
 z213 := Tryz.sizeOf125
 t232 := Tryz.underlying148
 a232 := Tryz.isAgg148
 z232 := Tryz.sizeOf148
 v232 := Tryz.zeroValue148
 t233 := Tryz.underlying149
 a233 := Tryz.isAgg149
 z233 := Tryz.sizeOf149
 v233 := Tryz.zeroValue149
 g15 := by kernel_rfl
 g16 := by kernel_rfl
 g17 := by kernel_rfl
 g18 := by kernel_rfl
 g19 := by kernel_rfl
 t80 := Tryz.underlying59
 a80 := Tryz.isAgg59
 z80 := Tryz.sizeOf59
 v80 := Tryz.zeroValue59
 i0 := by kernel_rfl
 i2 := by kernel_rfl
 i3 := by kernel_rfl
 i4 := by kernel_rfl
 i5 := by kernel_rfl
 i9 := by kernel_rfl
 i20 := by kernel_rfl
 i37 := by kernel_rfl
 i46 := by kernel_rfl
 i51 := by kernel_rfl
 i53 := by kernel_rfl
 i75 := by kernel_rfl
 i80 := by kernel_rfl
 i127 := by kernel_rfl
 i143 := by kernel_rfl
 i145 := by kernel_rfl
 i167 := by kernel_rfl
 i168 := by kernel_rfl
 i171 := by kernel_rfl
 i173 := by kernel_rfl
 i210 := by kernel_rfl
 i212 := by kernel_rfl
 i232 := by kernel_rfl
 i233 := by kernel_rfl
 m15 := by kernel_rfl
 m16 := by kernel_rfl
 m17 := by kernel_rfl
 m18 := by kernel_rfl
 m19 := by kernel_rfl
 c0 := by kernel_rfl
 c2 := by kernel_rfl
 c3 := by kernel_rfl
 c4 := by kernel_rfl
 c5 := by kernel_rfl
 c9 := by kernel_rfl
 c20 := by kernel_rfl
 c37 := by kernel_rfl
 c46 := by kernel_rfl
 c51 := by kernel_rfl
 c53 := by kernel_rfl
 c75 := by kernel_rfl
 c80 := by kernel_rfl
 c127 := by kernel_rfl
 c143 := by kernel_rfl
 c145 := by kernel_rfl
 c167 := by kernel_rfl
 c168 := by kernel_rfl
 c171 := by kernel_rfl
 c173 := by kernel_rfl
 c210 := by kernel_rfl
 c212 := by kernel_rfl
 c213 := by kernel_rfl
 c232 := by kernel_rfl
 c233 := by kernel_rfl }
open Go.RowKit in
theorem Tryz.strconv_toError_syntax (fn s : ByteArray) (base bits : Int) (ev : Value) (w : World) (hlim : s.size <= 281474976710656) (hv : w.cell? ⟨3, 0, none⟩ = some ev) (hev : ev = .nilIface \/ ∃ te pe, ev = .iface te pe) :
  Calls Tryz.prog 53 #[.string fn, .string s, .int .i64 base, .int .i64 bits, .iface 108 (.int .i64 2)] w fun e w' => ∃ N, e = .returned (.iface 111 (.pointer (some ⟨N, 0, none⟩))) /\ w.heap.size <= N /\ w'.heap[N]? = some (.cells #[.string fn, .string s, ev] 137 (0, 0)) /\ Below w.heap.size w w' := Any.strconv_toError_syntax Tryz.laysC245 fn s base bits ev w hlim hv hev
def Tryz.laysC172_ren : Go.Shelf.Ren := ⟨fun | 172 => 48 | 244 => 71 | 245 => 53 | 247 => 52 | 279 => 75 | 280 => 76 | 281 => 77 | 282 => 78 | 287 => 74 | 316 => 96 | 171 => 43 | 205 => 97 | 321 => 94 | 322 => 95 | 243 => 60 | 246 => 45 | 283 => 63 | 284 => 64 | 285 => 65 | 286 => 66 | 129 => 84 | 317 => 83 | 318 => 85 | 319 => 86 | 320 => 87 | 337 => 100 | 338 => 101 | n => n, fun | 9 => 9 | 3 => 3 | 75 => 67 | 76 => 83 | 4 => 4 | 5 => 5 | 167 => 108 | 37 => 49 | 0 => 0 | 85 => 68 | 2 => 2 | 168 => 111 | 53 => 98 | 175 => 109 | 46 => 86 | 210 => 137 | 127 => 87 | 145 => 147 | 143 => 145 | 21 => 21 | 171 => 97 | 173 => 101 | 212 => 123 | 51 => 124 | 20 => 20 | 213 => 125 | 232 => 148 | 233 => 149 | 80 => 59 | n => n, fun | 15 => 3 | 16 => 4 | 17 => 2 | 18 => 6 | 19 => 7 | n => n⟩
theorem Tryz.laysC172 : Go.Proofs.LaysC.n172 Tryz.prog Tryz.laysC172_ren := {
 mixed := by kernel_rfl
 f129 := Tryz.func84.trans (congrArg some (by kernel_rfl))
 f171 := Tryz.func43.trans (congrArg some (by kernel_rfl))
 f172 := Tryz.func48.trans (congrArg some (by kernel_rfl))
 f205 := Tryz.func97.trans (congrArg some (by kernel_rfl))
 f243 := Tryz.func60.trans (congrArg some (by kernel_rfl))
 f244 := Tryz.func71.trans (congrArg some (by kernel_rfl))
 f245 := Tryz.func53.trans (congrArg some (by kernel_rfl))
 f246 := Tryz.func45.trans (congrArg some (by kernel_rfl))
 f247 := Tryz.func52.trans (congrArg some (by kernel_rfl))
 f279 := Tryz.func75.trans (congrArg some (by kernel_rfl))
 f280 := Tryz.func76.trans (congrArg some (by kernel_rfl))
 f281 := Tryz.func77.trans (congrArg some (by kernel_rfl))
 f282 := Tryz.func78.trans (congrArg some (by kernel_rfl))
 f283 := Tryz.func63.trans (congrArg some (by kernel_rfl))
 f284 := Tryz.func64.trans (congrArg some (by kernel_rfl))
 f285 := Tryz.func65.trans (congrArg some (by kernel_rfl))
 f286 := Tryz.func66.trans (congrArg some (by kernel_rfl))
 f287 := Tryz.func74.trans (congrArg some (by kernel_rfl))
 f316 := Tryz.func96.trans (congrArg some (by kernel_rfl))
 f317 := Tryz.func83.trans (congrArg some (by kernel_rfl))
 f318 := Tryz.func85.trans (congrArg some (by kernel_rfl))
 f319 := Tryz.func86.trans (congrArg some (by kernel_rfl))
 f320 := Tryz.func87.trans (congrArg some (by kernel_rfl))
 f321 := Tryz.func94.trans (congrArg some (by kernel_rfl))
 f322 := Tryz.func95.trans (congrArg some (by kernel_rfl))
 f337 := Tryz.func100.trans (congrArg some (by kernel_rfl))
 f338 := Tryz.func101.trans (congrArg some (by kernel_rfl))
 t0 := Tryz.underlying0
 a0 := Tryz.isAgg0
 z0 := Tryz.sizeOf0
 v0 := Tryz.zeroValue0
 t2 := Tryz.underlying2
 a2 := Tryz.isAgg2
 z2 := Tryz.sizeOf2
 v2 := Tryz.zeroValue2
 t3 := Tryz.underlying3
 a3 := Tryz.isAgg3
 z3 := Tryz.sizeOf3
 v3 := Tryz.zeroValue3
 t4 := Tryz.underlying4
 a4 := Tryz.isAgg4
 z4 := Tryz.sizeOf4
 v4 := Tryz.zeroValue4
 t5 := Tryz.underlying5
 a5 := Tryz.isAgg5
 z5 := Tryz.sizeOf5
 v5 := Tryz.zeroValue5
 t9 := Tryz.underlying9
 a9 := Tryz.isAgg9
 z9 := Tryz.sizeOf9
 v9 := Tryz.zeroValue9
 t20 := Tryz.underlying20
 a20 := Tryz.isAgg20
 z20 := Tryz.sizeOf20
 v20 := Tryz.zeroValue20
 t21 := Tryz.underlying21
 a21 := Tryz.isAgg21
 z21 := Tryz.sizeOf21
 v21 := Tryz.zeroValue21
 t37 := Tryz.underlying49
 a37 := Tryz.isAgg49
 z37 := Tryz.sizeOf49
 v37 := Tryz.zeroValue49
 t46 := Tryz.underlying86
 a46 := Tryz.isAgg86
 z46 := Tryz.sizeOf86
 v46 := Tryz.zeroValue86
 t51 := Tryz.underlying124
 a51 := Tryz.isAgg124
 z51 := Tryz.sizeOf124
 v51 := Tryz.zeroValue124
 t53 := Tryz.underlying98
 a53 := Tryz.isAgg98
 z53 := Tryz.sizeOf98
 v53 := Tryz.zeroValue98
 t75 := Tryz.underlying67
 a75 := Tryz.isAgg67
 z75 := Tryz.sizeOf67
 v75 := Tryz.zeroValue67
 t76 := Tryz.underlying83
 a76 := Tryz.isAgg83
 z76 := Tryz.sizeOf83
 v76 := Tryz.zeroValue83
 t85 := Tryz.underlying68
 a85 := Tryz.isAgg68
 z85 := Tryz.sizeOf68
 v85 := Tryz.zeroValue68
 t127 := Tryz.underlying87
 a127 := Tryz.isAgg87
 z127 := Tryz.sizeOf87
 v127 := Tryz.zeroValue87
 t143 := Tryz.underlying145
 a143 := Tryz.isAgg145
 z143 := Tryz.sizeOf145
 v143 := Tryz.zeroValue145
 t145 := Tryz.underlying147
 a145 := Tryz.isAgg147
 z145 := Tryz.sizeOf147
 v145 := Tryz.zeroValue147
 t167 := Tryz.underlying108
 a167 := Tryz.isAgg108
 z167 := Tryz.sizeOf108
 v167 := Tryz.zeroValue108
 t168 := Tryz.underlying111
 a168 := Tryz.isAgg111
 z168 := Tryz.sizeOf111
 v168 := Tryz.zeroValue111
 t171 := Tryz.underlying97
 a171 := Tryz.isAgg97
 z171 := Tryz.sizeOf97
 v171 := Tryz.zeroValue97
 t173 := Tryz.underlying101
 a173 := Tryz.isAgg101
 z173 := Tryz.sizeOf101
 v173 := Tryz.zeroValue101
 t175 := Tryz.underlying109
 a175 := Tryz.isAgg109
 z175 := Tryz.sizeOf109
 v175 := Tryz.zeroValue109
 t210 := Tryz.underlying137
 a210 := Tryz.isAgg137
 z210 := Tryz.sizeOf137
 v210 := Tryz.zeroValue137
 t212 := Tryz.underlying123
 a212 := Tryz.isAgg123
 z212 := Tryz.sizeOf123
 v212 := Tryz.zeroValue123
 t213 := Tryz.underlying125
 a213 := Tryz.isAgg125
 z213 := Tryz.sizeOf125
 t232 := Tryz.underlying148
 a232 := Tryz.isAgg148
 z232 := Tryz.sizeOf148
 v232 := Tryz.zeroValue148
 t233 := Tryz.underlying149
 a233 := Tryz.isAgg149
 z233 := Tryz.sizeOf149
 v233 := Tryz.zeroValue149
 g15 := by kernel_rfl
 g16 := by kernel_rfl
 g17 := by kernel_rfl
 g18 := by kernel_rfl
 g19 := by kernel_rfl
 t80 := Tryz.underlying59
 a80 := Tryz.isAgg59
 z80 := Tryz.sizeOf59
 v80 := Tryz.zeroValue59
 i0 := by kernel_rfl
 i2 := by kernel_rfl
 i3 := by kernel_rfl
 i4 := by kernel_rfl
 i5 := by kernel_rfl
 i9 := by kernel_rfl
 i20 := by kernel_rfl
 i21 := by kernel_rfl
 i37 := by kernel_rfl
 i46 := by kernel_rfl
 i51 := by kernel_rfl
 i53 := by kernel_rfl
 i75 := by kernel_rfl
 i76 := by kernel_rfl
 i80 := by kernel_rfl
 i85 := by kernel_rfl
 i127 := by kernel_rfl
 i143 := by kernel_rfl
 i145 := by kernel_rfl
 i167 := by kernel_rfl
 i168 := by kernel_rfl
 i171 := by kernel_rfl
 i173 := by kernel_rfl
 i175 := by kernel_rfl
 i210 := by kernel_rfl
 i212 := by kernel_rfl
 i232 := by kernel_rfl
 i233 := by kernel_rfl
 m15 := by kernel_rfl
 m16 := by kernel_rfl
 m17 := by kernel_rfl
 m18 := by kernel_rfl
 m19 := by kernel_rfl
 c0 := by kernel_rfl
 c2 := by kernel_rfl
 c3 := by kernel_rfl
 c4 := by kernel_rfl
 c5 := by kernel_rfl
 c9 := by kernel_rfl
 c20 := by kernel_rfl
 c21 := by kernel_rfl
 c37 := by kernel_rfl
 c46 := by kernel_rfl
 c51 := by kernel_rfl
 c53 := by kernel_rfl
 c75 := by kernel_rfl
 c76 := by kernel_rfl
 c80 := by kernel_rfl
 c85 := by kernel_rfl
 c127 := by kernel_rfl
 c143 := by kernel_rfl
 c145 := by kernel_rfl
 c167 := by kernel_rfl
 c168 := by kernel_rfl
 c171 := by kernel_rfl
 c173 := by kernel_rfl
 c175 := by kernel_rfl
 c210 := by kernel_rfl
 c212 := by kernel_rfl
 c213 := by kernel_rfl
 c232 := by kernel_rfl
 c233 := by kernel_rfl }
def Tryz.lays321_ren : Go.Shelf.Ren := ⟨fun | 321 => 94 | n => n, fun | 5 => 5 | n => n, fun | n => n⟩
open Go.RowKit in
theorem Tryz.strconv_Atoi_ok (s : ByteArray) (hmax : s.size <= 9223372036854775806) (v : Int) (h : Lib.atoiAll s.data.toList = .ok v) (w : World) :
  Calls Tryz.prog 48 #[.string s] w fun e w' => e = .returned (.tuple #[.int .i64 v, .nilIface]) /\ (w' = w \/ ∃ t, w' = Lib.bytesWorld w 5 t) := Any.strconv_Atoi_ok Tryz.laysC172 s hmax v h w
open Go.RowKit in
theorem Tryz.strconv_Atoi_syntax_var (s : ByteArray) (hlim : s.size ≤ 281474976710656) (h : Lib.atoiAll s.data.toList = Lib.atoiAll []) (tp : TypeId) (p : Value) (w : World) (hvar : w.var? Tryz.prog "strconv.ErrSyntax" = some #[.iface tp p]) :
  Calls Tryz.prog 48 #[.string s] w fun e w' => ∃ N, e = .returned (.tuple #[.int .i64 0, .iface 111 (.pointer (some ⟨N, 0, none⟩))]) /\ w.heap.size <= N /\ w'.heap[N]? = some (.cells #[.string ⟨#[65, 116, 111, 105]⟩, .string s, .iface tp p] 137 (0, 0)) /\ Below w.heap.size w w' := Any.strconv_Atoi_syntax_var Tryz.laysC172 s hlim h tp p w hvar
open Go.RowKit in
theorem Tryz.strconv_Atoi_range_var (s : ByteArray) (hlim : s.size ≤ 281474976710656) (h : Lib.atoiAll s.data.toList = .range) (tp : TypeId) (p : Value) (w : World) (hvar : w.var? Tryz.prog "strconv.ErrRange" = some #[.iface tp p]) :
  Calls Tryz.prog 48 #[.string s] w fun e w' => ∃ N, e = .returned (.tuple #[.int .i64 (Lib.atoiSat s.data.toList), .iface 111 (.pointer (some ⟨N, 0, none⟩))]) /\ w.heap.size <= N /\ w'.heap[N]? = some (.cells #[.string ⟨#[65, 116, 111, 105]⟩, .string s, .iface tp p] 137 (0, 0)) /\ Below w.heap.size w w' := Any.strconv_Atoi_range_var Tryz.laysC172 s hlim h tp p w hvar
def Tryz.laysC174_ren : Go.Shelf.Ren := ⟨fun | 174 => 27 | 247 => 52 | 245 => 53 | 287 => 74 | 279 => 75 | 280 => 76 | 281 => 77 | 282 => 78 | 321 => 94 | 322 => 95 | 316 => 96 | 171 => 43 | 205 => 97 | 243 => 60 | 246 => 45 | 283 => 63 | 284 => 64 | 285 => 65 | 286 => 66 | 129 => 84 | 317 => 83 | 318 => 85 | 319 => 86 | 320 => 87 | 337 => 100 | 338 => 101 | n => n, fun | 9 => 9 | 3 => 3 | 2 => 2 | 75 => 67 | 85 => 68 | 4 => 4 | 167 => 108 | 5 => 5 | 53 => 98 | 175 => 109 | 46 => 86 | 168 => 111 | 37 => 49 | 0 => 0 | 210 => 137 | 21 => 21 | 127 => 87 | 145 => 147 | 143 => 145 | 171 => 97 | 173 => 101 | 212 => 123 | 51 => 124 | 20 => 20 | 213 => 125 | 232 => 148 | 233 => 149 | 80 => 59 | n => n, fun | 15 => 3 | 16 => 4 | 17 => 2 | 18 => 6 | 19 => 7 | n => n⟩
theorem Tryz.laysC174 : Go.Proofs.LaysC.n174 Tryz.prog Tryz.laysC174_ren := {
 mixed := by kernel_rfl
 f129 := Tryz.func84.trans (congrArg some (by kernel_rfl))
 f171 := Tryz.func43.trans (congrArg some (by kernel_rfl))
 f174 := Tryz.func27.trans (congrArg some (by kernel_rfl))
 f205 := Tryz.func97.trans (congrArg some (by kernel_rfl))
 f243 := Tryz.func60.trans (congrArg some (by kernel_rfl))
 f245 := Tryz.func53.trans (congrArg some (by kernel_rfl))
 f246 := Tryz.func45.trans (congrArg some (by kernel_rfl))
 f247 := Tryz.func52.trans (congrArg some (by kernel_rfl))
 f279 := Tryz.func75.trans (congrArg some (by kernel_rfl))
 f280 := Tryz.func76.trans (congrArg some (by kernel_rfl))
 f281 := Tryz.func77.trans (congrArg some (by kernel_rfl))
 f282 := Tryz.func78.trans (congrArg some (by kernel_rfl))
 f283 := Tryz.func63.trans (congrArg some (by kernel_rfl))
 f284 := Tryz.func64.trans (congrArg some (by kernel_rfl))
 f285 := Tryz.func65.trans (congrArg some (by kernel_rfl))
 f286 := Tryz.func66.trans (congrArg some (by kernel_rfl))
 f287 := Tryz.func74.trans (congrArg some (by kernel_rfl))
 f316 := Tryz.func96.trans (congrArg some (by kernel_rfl))
 f317 := Tryz.func83.trans (congrArg some (by kernel_rfl))
 f318 := Tryz.func85.trans (congrArg some (by kernel_rfl))
 f319 := Tryz.func86.trans (congrArg some (by kernel_rfl))
 f320 := Tryz.func87.trans (congrArg some (by kernel_rfl))
 f321 := Tryz.func94.trans (congrArg some (by kernel_rfl))
 f322 := Tryz.func95.trans (congrArg some (by kernel_rfl))
 f337 := Tryz.func100.trans (congrArg some (by kernel_rfl))
 f338 := Tryz.func101.trans (congrArg some (by kernel_rfl))
 t0 := Tryz.underlying0
 a0 := Tryz.isAgg0
 z0 := Tryz.sizeOf0
 v0 := Tryz.zeroValue0
 t2 := Tryz.underlying2
 a2 := Tryz.isAgg2
 z2 := Tryz.sizeOf2
 v2 := Tryz.zeroValue2
 t3 := Tryz.underlying3
 a3 := Tryz.isAgg3
 z3 := Tryz.sizeOf3
 v3 := Tryz.zeroValue3
 t4 := Tryz.underlying4
 a4 := Tryz.isAgg4
 z4 := Tryz.sizeOf4
 v4 := Tryz.zeroValue4
 t5 := Tryz.underlying5
 a5 := Tryz.isAgg5
 z5 := Tryz.sizeOf5
 v5 := Tryz.zeroValue5
 t9 := Tryz.underlying9
 a9 := Tryz.isAgg9
 z9 := Tryz.sizeOf9
 v9 := Tryz.zeroValue9
 t20 := Tryz.underlying20
 a20 := Tryz.isAgg20
 z20 := Tryz.sizeOf20
 v20 := Tryz.zeroValue20
 t21 := Tryz.underlying21
 a21 := Tryz.isAgg21
 z21 := Tryz.sizeOf21
 v21 := Tryz.zeroValue21
 t37 := Tryz.underlying49
 a37 := Tryz.isAgg49
 z37 := Tryz.sizeOf49
 v37 := Tryz.zeroValue49
 t46 := Tryz.underlying86
 a46 := Tryz.isAgg86
 z46 := Tryz.sizeOf86
 v46 := Tryz.zeroValue86
 t51 := Tryz.underlying124
 a51 := Tryz.isAgg124
 z51 := Tryz.sizeOf124
 v51 := Tryz.zeroValue124
 t53 := Tryz.underlying98
 a53 := Tryz.isAgg98
 z53 := Tryz.sizeOf98
 v53 := Tryz.zeroValue98
 t75 := Tryz.underlying67
 a75 := Tryz.isAgg67
 z75 := Tryz.sizeOf67
 v75 := Tryz.zeroValue67
 t85 := Tryz.underlying68
 a85 := Tryz.isAgg68
 z85 := Tryz.sizeOf68
 v85 := Tryz.zeroValue68
 t127 := Tryz.underlying87
 a127 := Tryz.isAgg87
 z127 := Tryz.sizeOf87
 v127 := Tryz.zeroValue87
 t143 := Tryz.underlying145
 a143 := Tryz.isAgg145
 z143 := Tryz.sizeOf145
 v143 := Tryz.zeroValue145
 t145 := Tryz.underlying147
 a145 := Tryz.isAgg147
 z145 := Tryz.sizeOf147
 v145 := Tryz.zeroValue147
 t167 := Tryz.underlying108
 a167 := Tryz.isAgg108
 z167 := Tryz.sizeOf108
 v167 := Tryz.zeroValue108
 t168 := Tryz.underlying111
 a168 := Tryz.isAgg111
 z168 := Tryz.sizeOf111
 v168 := Tryz.zeroValue111
 t171 := Tryz.underlying97
 a171 := Tryz.isAgg97
 z171 := Tryz.sizeOf97
 v171 := Tryz.zeroValue97
 t173 := Tryz.underlying101
 a173 := Tryz.isAgg101
 z173 := Tryz.sizeOf101
 v173 := Tryz.zeroValue101
 t175 := Tryz.underlying109
 a175 := Tryz.isAgg109
 z175 := Tryz.sizeOf109
 v175 := Tryz.zeroValue109
 t210 := Tryz.underlying137
 a210 := Tryz.isAgg137
 z210 := Tryz.sizeOf137
 v210 := Tryz.zeroValue137
 t212 := Tryz.underlying123
 a212 := Tryz.isAgg123
 z212 := Tryz.sizeOf123
 v212 := Tryz.zeroValue123
 t213 := Tryz.underlying125
 a213 := Tryz.isAgg125
 z213 := Tryz.sizeOf125
 t232 := Tryz.underlying148
 a232 := Tryz.isAgg148
 z232 := Tryz.sizeOf148
 v232 := Tryz.zeroValue148
 t233 := Tryz.underlying149
 a233 := Tryz.isAgg149
 z233 := Tryz.sizeOf149
 v233 := Tryz.zeroValue149
 g15 := by kernel_rfl
 g16 := by kernel_rfl
 g17 := by kernel_rfl
 g18 := by kernel_rfl
 g19 := by kernel_rfl
 t80 := Tryz.underlying59
 a80 := Tryz.isAgg59
 z80 := Tryz.sizeOf59
 v80 := Tryz.zeroValue59
 i0 := by kernel_rfl
 i2 := by kernel_rfl
 i3 := by kernel_rfl
 i4 := by kernel_rfl
 i5 := by kernel_rfl
 i9 := by kernel_rfl
 i20 := by kernel_rfl
 i21 := by kernel_rfl
 i37 := by kernel_rfl
 i46 := by kernel_rfl
 i51 := by kernel_rfl
 i53 := by kernel_rfl
 i75 := by kernel_rfl
 i80 := by kernel_rfl
 i85 := by kernel_rfl
 i127 := by kernel_rfl
 i143 := by kernel_rfl
 i145 := by kernel_rfl
 i167 := by kernel_rfl
 i168 := by kernel_rfl
 i171 := by kernel_rfl
 i173 := by kernel_rfl
 i175 := by kernel_rfl
 i210 := by kernel_rfl
 i212 := by kernel_rfl
 i232 := by kernel_rfl
 i233 := by kernel_rfl
 m15 := by kernel_rfl
 m16 := by kernel_rfl
 m17 := by kernel_rfl
 m18 := by kernel_rfl
 m19 := by kernel_rfl
 c0 := by kernel_rfl
 c2 := by kernel_rfl
 c3 := by kernel_rfl
 c4 := by kernel_rfl
 c5 := by kernel_rfl
 c9 := by kernel_rfl
 c20 := by kernel_rfl
 c21 := by kernel_rfl
 c37 := by kernel_rfl
 c46 := by kernel_rfl
 c51 := by kernel_rfl
 c53 := by kernel_rfl
 c75 := by kernel_rfl
 c80 := by kernel_rfl
 c85 := by kernel_rfl
 c127 := by kernel_rfl
 c143 := by kernel_rfl
 c145 := by kernel_rfl
 c167 := by kernel_rfl
 c168 := by kernel_rfl
 c171 := by kernel_rfl
 c173 := by kernel_rfl
 c175 := by kernel_rfl
 c210 := by kernel_rfl
 c212 := by kernel_rfl
 c213 := by kernel_rfl
 c232 := by kernel_rfl
 c233 := by kernel_rfl }
open Go.RowKit in
theorem Tryz.strconv_ParseInt_10_at64_ok (s : ByteArray) (hmax : s.size <= 9223372036854775806) (v : Int) (h : Lib.parseIntB 64 s.data.toList = .ok v) (w : World) :
  Calls Tryz.prog 27 #[.string s, .int .i64 10, .int .i64 64] w fun e w' => e = .returned (.tuple #[.int .i64 v, .nilIface]) /\ (w' = w \/ ∃ t, w' = Lib.bytesWorld w 5 t) := Any.strconv_ParseInt_10_at64_ok Tryz.laysC174 s hmax v h w
open Go.RowKit in
theorem Tryz.strconv_ParseInt_10_at64_syntax_var (s : ByteArray) (hlim : s.size ≤ 281474976710656) (h : Lib.parseIntB 64 s.data.toList = Lib.parseIntB 64 []) (tp : TypeId) (p : Value) (w : World) (hvar : w.var? Tryz.prog "strconv.ErrSyntax" = some #[.iface tp p]) :
  Calls Tryz.prog 27 #[.string s, .int .i64 10, .int .i64 64] w fun e w' => ∃ N, e = .returned (.tuple #[.int .i64 (0), .iface 111 (.pointer (some ⟨N, 0, none⟩))]) /\ w.heap.size <= N /\ w'.heap[N]? = some (.cells #[.string ⟨#[80, 97, 114, 115, 101, 73, 110, 116]⟩, .string s, .iface tp p] 137 (0, 0)) /\ Below w.heap.size w w' := Any.strconv_ParseInt_10_at64_syntax_var Tryz.laysC174 s hlim h tp p w hvar
open Go.RowKit in
theorem Tryz.strconv_ParseInt_10_at64_range_var (s : ByteArray) (hlim : s.size ≤ 281474976710656) (h : Lib.parseIntB 64 s.data.toList = .range) (tp : TypeId) (p : Value) (w : World) (hvar : w.var? Tryz.prog "strconv.ErrRange" = some #[.iface tp p]) :
  Calls Tryz.prog 27 #[.string s, .int .i64 10, .int .i64 64] w fun e w' => ∃ N, e = .returned (.tuple #[.int .i64 (Lib.intSat 64 s.data.toList), .iface 111 (.pointer (some ⟨N, 0, none⟩))]) /\ w.heap.size <= N /\ w'.heap[N]? = some (.cells #[.string ⟨#[80, 97, 114, 115, 101, 73, 110, 116]⟩, .string s, .iface tp p] 137 (0, 0)) /\ Below w.heap.size w w' := Any.strconv_ParseInt_10_at64_range_var Tryz.laysC174 s hlim h tp p w hvar
def Tryz.lays143_ren : Go.Shelf.Ren := ⟨fun | 143 => 69 | 219 => 91 | 217 => 103 | 225 => 104 | 224 => 105 | 267 => 106 | 266 => 114 | 314 => 115 | n => n, fun | 9 => 9 | 3 => 3 | 4 => 4 | 5 => 5 | 46 => 86 | 146 => 150 | 51 => 124 | n => n, fun | 1 => 5 | n => n⟩
theorem Tryz.lays143 : Go.Proofs.Lays.n143 Tryz.prog Tryz.lays143_ren := {
 mixed := by kernel_rfl
 f143 := Tryz.func69.trans (congrArg some (by kernel_rfl))
 f217 := Tryz.func103.trans (congrArg some (by kernel_rfl))
 f219 := Tryz.func91.trans (congrArg some (by kernel_rfl))
 f224 := Tryz.func105.trans (congrArg some (by kernel_rfl))
 f225 := Tryz.func104.trans (congrArg some (by kernel_rfl))
 f266 := Tryz.func114.trans (congrArg some (by kernel_rfl))
 f267 := Tryz.func106.trans (congrArg some (by kernel_rfl))
 f314 := Tryz.func115.trans (congrArg some (by kernel_rfl))
 t3 := Tryz.underlying3
 a3 := Tryz.isAgg3
 z3 := Tryz.sizeOf3
 v3 := Tryz.zeroValue3
 t4 := Tryz.underlying4
 a4 := Tryz.isAgg4
 z4 := Tryz.sizeOf4
 v4 := Tryz.zeroValue4
 t5 := Tryz.underlying5
 a5 := Tryz.isAgg5
 z5 := Tryz.sizeOf5
 v5 := Tryz.zeroValue5
 t9 := Tryz.underlying9
 a9 := Tryz.isAgg9
 z9 := Tryz.sizeOf9
 v9 := Tryz.zeroValue9
 t46 := Tryz.underlying86
 a46 := Tryz.isAgg86
 z46 := Tryz.sizeOf86
 v46 := Tryz.zeroValue86
 t51 := Tryz.underlying124
 a51 := Tryz.isAgg124
 z51 := Tryz.sizeOf124
 v51 := Tryz.zeroValue124
 t146 := Tryz.underlying150
 a146 := Tryz.isAgg150
 z146 := Tryz.sizeOf150
 v146 := Tryz.zeroValue150
 g1 := by kernel_rfl }
open Go.RowKit Go.Lib in
theorem Tryz.strings_Index (s sub : ByteArray) (m : Int) (w : World) (hs : s.size < 4294967281) (hm : w.cell? ⟨5, 0, none⟩ = some (.int .i64 m)) :
  Calls Tryz.prog 69 #[.string s, .string sub] w fun e w' => e = .returned (.int .i64 (Lib.index s.data.toList sub.data.toList)) /\ w' = w := Any.strings_Index Tryz.lays143 s sub m w hs hm
def Tryz.lays99_ren : Go.Shelf.Ren := ⟨fun | 99 => 26 | 206 => 51 | n => n, fun | 9 => 9 | 4 => 4 | 3 => 3 | n => n, fun | n => n⟩
theorem Tryz.lays99 : Go.Proofs.Lays.n99 Tryz.prog Tryz.lays99_ren := {
 mixed := by kernel_rfl
 f99 := Tryz.func26.trans (congrArg some (by kernel_rfl))
 f206 := Tryz.func51.trans (congrArg some (by kernel_rfl))
 t3 := Tryz.underlying3
 a3 := Tryz.isAgg3
 z3 := Tryz.sizeOf3
 v3 := Tryz.zeroValue3
 t4 := Tryz.underlying4
 a4 := Tryz.isAgg4
 z4 := Tryz.sizeOf4
 v4 := Tryz.zeroValue4
 t9 := Tryz.underlying9
 a9 := Tryz.isAgg9
 z9 := Tryz.sizeOf9
 v9 := Tryz.zeroValue9 }
open Go.RowKit Go.Lib in
theorem Tryz.strings_HasPrefix (s p : ByteArray) (w : World) :
  Calls Tryz.prog 26 #[.string s, .string p] w fun e w' => e = .returned (.bool (Lib.hasPrefix s.data.toList p.data.toList)) /\ w' = w := Any.strings_HasPrefix Tryz.lays99 s p w
def Tryz.lays101_ren : Go.Shelf.Ren := ⟨fun | 101 => 25 | 208 => 50 | 206 => 51 | n => n, fun | 9 => 9 | 4 => 4 | 3 => 3 | n => n, fun | n => n⟩
theorem Tryz.lays101 : Go.Proofs.Lays.n101 Tryz.prog Tryz.lays101_ren := {
 mixed := by kernel_rfl
 f101 := Tryz.func25.trans (congrArg some (by kernel_rfl))
 f206 := Tryz.func51.trans (congrArg some (by kernel_rfl))
 f208 := Tryz.func50.trans (congrArg some (by kernel_rfl))
 t3 := Tryz.underlying3
 a3 := Tryz.isAgg3
 z3 := Tryz.sizeOf3
 v3 := Tryz.zeroValue3
 t4 := Tryz.underlying4
 a4 := Tryz.isAgg4
 z4 := Tryz.sizeOf4
 v4 := Tryz.zeroValue4
 t9 := Tryz.underlying9
 a9 := Tryz.isAgg9
 z9 := Tryz.sizeOf9
 v9 := Tryz.zeroValue9 }
open Go.RowKit Go.Lib in
theorem Tryz.strings_TrimPrefix (s p : ByteArray) (w : World) :
  Calls Tryz.prog 25 #[.string s, .string p] w fun e w' => e = .returned (.string ⟨(Lib.trimPrefix s.data.toList p.data.toList).toArray⟩) /\ w' = w := Any.strings_TrimPrefix Tryz.lays101 s p w
def Tryz.lays102_ren : Go.Shelf.Ren := ⟨fun | 102 => 21 | 209 => 47 | 207 => 70 | n => n, fun | 9 => 9 | 4 => 4 | 3 => 3 | n => n, fun | n => n⟩
theorem Tryz.lays102 : Go.Proofs.Lays.n102 Tryz.prog Tryz.lays102_ren := {
 mixed := by kernel_rfl
 f102 := Tryz.func21.trans (congrArg some (by kernel_rfl))
 f207 := Tryz.func70.trans (congrArg some (by kernel_rfl))
 f209 := Tryz.func47.trans (congrArg some (by kernel_rfl))
 t3 := Tryz.underlying3
 a3 := Tryz.isAgg3
 z3 := Tryz.sizeOf3
 v3 := Tryz.zeroValue3
 t4 := Tryz.underlying4
 a4 := Tryz.isAgg4
 z4 := Tryz.sizeOf4
 v4 := Tryz.zeroValue4
 t9 := Tryz.underlying9
 a9 := Tryz.isAgg9
 z9 := Tryz.sizeOf9
 v9 := Tryz.zeroValue9 }
open Go.RowKit Go.Lib in
theorem Tryz.strings_TrimSuffix (s p : ByteArray) (w : World) (hs : s.size <= 9223372036854775807) :
  Calls Tryz.prog 21 #[.string s, .string p] w fun e w' => e = .returned (.string ⟨(Lib.trimSuffix s.data.toList p.data.toList).toArray⟩) /\ w' = w := Any.strings_TrimSuffix Tryz.lays102 s p w hs
def Tryz.lays146_ren : Go.Shelf.Ren := ⟨fun | 146 => 20 | 221 => 46 | 268 => 67 | 138 => 68 | 143 => 69 | 195 => 88 | 197 => 89 | 218 => 90 | 219 => 91 | 260 => 102 | 217 => 103 | 225 => 104 | 224 => 105 | 267 => 106 | 266 => 114 | 314 => 115 | n => n, fun | 9 => 9 | 31 => 56 | 3 => 3 | 4 => 4 | 0 => 0 | 105 => 128 | 21 => 21 | 5 => 5 | 46 => 86 | 119 => 117 | 139 => 120 | 138 => 119 | 146 => 150 | 51 => 124 | n => n, fun | 1 => 5 | 3 => 0 | 4 => 1 | n => n⟩
theorem Tryz.lays146 : Go.Proofs.Lays.n146 Tryz.prog Tryz.lays146_ren := {
 mixed := by kernel_rfl
 f138 := Tryz.func68.trans (congrArg some (by kernel_rfl))
 f143 := Tryz.func69.trans (congrArg some (by kernel_rfl))
 f146 := Tryz.func20.trans (congrArg some (by kernel_rfl))
 f195 := Tryz.func88.trans (congrArg some (by kernel_rfl))
 f197 := Tryz.func89.trans (congrArg some (by kernel_rfl))
 f217 := Tryz.func103.trans (congrArg some (by kernel_rfl))
 f218 := Tryz.func90.trans (congrArg some (by kernel_rfl))
 f219 := Tryz.func91.trans (congrArg some (by kernel_rfl))
 f221 := Tryz.func46.trans (congrArg some (by kernel_rfl))
 f224 := Tryz.func105.trans (congrArg some (by kernel_rfl))
 f225 := Tryz.func104.trans (congrArg some (by kernel_rfl))
 f260 := Tryz.func102.trans (congrArg some (by kernel_rfl))
 f266 := Tryz.func114.trans (congrArg some (by kernel_rfl))
 f267 := Tryz.func106.trans (congrArg some (by kernel_rfl))
 f268 := Tryz.func67.trans (congrArg some (by kernel_rfl))
 f314 := Tryz.func115.trans (congrArg some (by kernel_rfl))
 t0 := Tryz.underlying0
 a0 := Tryz.isAgg0
 z0 := Tryz.sizeOf0
 v0 := Tryz.zeroValue0
 t3 := Tryz.underlying3
 a3 := Tryz.isAgg3
 z3 := Tryz.sizeOf3
 v3 := Tryz.zeroValue3
 t4 := Tryz.underlying4
 a4 := Tryz.isAgg4
 z4 := Tryz.sizeOf4
 v4 := Tryz.zeroValue4
 t5 := Tryz.underlying5
 a5 := Tryz.isAgg5
 z5 := Tryz.sizeOf5
 v5 := Tryz.zeroValue5
 t9 := Tryz.underlying9
 a9 := Tryz.isAgg9
 z9 := Tryz.sizeOf9
 v9 := Tryz.zeroValue9
 t21 := Tryz.underlying21
 a21 := Tryz.isAgg21
 z21 := Tryz.sizeOf21
 v21 := Tryz.zeroValue21
 t31 := Tryz.underlying56
 a31 := Tryz.isAgg56
 z31 := Tryz.sizeOf56
 v31 := Tryz.zeroValue56
 t46 := Tryz.underlying86
 a46 := Tryz.isAgg86
 z46 := Tryz.sizeOf86
 v46 := Tryz.zeroValue86
 t51 := Tryz.underlying124
 a51 := Tryz.isAgg124
 z51 := Tryz.sizeOf124
 v51 := Tryz.zeroValue124
 t105 := Tryz.underlying128
 a105 := Tryz.isAgg128
 z105 := Tryz.sizeOf128
 v105 := Tryz.zeroValue128
 t119 := Tryz.underlying117
 a119 := Tryz.isAgg117
 z119 := Tryz.sizeOf117
 t138 := Tryz.underlying119
 a138 := Tryz.isAgg119
 z138 := Tryz.sizeOf119
 v138 := Tryz.zeroValue119
 t139 := Tryz.underlying120
 a139 := Tryz.isAgg120
 z139 := Tryz.sizeOf120
 v139 := Tryz.zeroValue120
 t146 := Tryz.underlying150
 a146 := Tryz.isAgg150
 z146 := Tryz.sizeOf150
 v146 := Tryz.zeroValue150
 g1 := by kernel_rfl
 g3 := by kernel_rfl
 g4 := by kernel_rfl }
open Go.RowKit Go.Lib in
theorem Tryz.strings_Split (s sep : ByteArray) (m : Int) (w : World) (hs : s.size < 4294967281) (hm : w.cell? ⟨5, 0, none⟩ = some (.int .i64 m)) (h1 : 1 <= sep.size) :
  Calls Tryz.prog 20 #[.string s, .string sep] w fun e w' =>
   e = .returned (.slice (some ⟨w.heap.size, 0, none⟩) (Lib.countB s sep + 1) (Lib.countB s sep + 1)) /\ w' = w.alloc (.cells ((Lib.splitB sep 0 (Lib.countB s sep) s).map Value.string).toArray 9) := Any.strings_Split Tryz.lays146 (by kernel_rfl) s sep m w hs hm h1
def Tryz.lays147_ren : Go.Shelf.Ren := ⟨fun | 147 => 22 | 221 => 46 | 268 => 67 | 138 => 68 | 143 => 69 | 195 => 88 | 197 => 89 | 218 => 90 | 219 => 91 | 260 => 102 | 217 => 103 | 225 => 104 | 224 => 105 | 267 => 106 | 266 => 114 | 314 => 115 | n => n, fun | 9 => 9 | 3 => 3 | 31 => 56 | 4 => 4 | 0 => 0 | 105 => 128 | 21 => 21 | 5 => 5 | 46 => 86 | 119 => 117 | 139 => 120 | 138 => 119 | 146 => 150 | 51 => 124 | n => n, fun | 1 => 5 | 3 => 0 | 4 => 1 | n => n⟩
theorem Tryz.lays147 : Go.Proofs.Lays.n147 Tryz.prog Tryz.lays147_ren := {
 mixed := by kernel_rfl
 f138 := Tryz.func68.trans (congrArg some (by kernel_rfl))
 f143 := Tryz.func69.trans (congrArg some (by kernel_rfl))
 f147 := Tryz.func22.trans (congrArg some (by kernel_rfl))
 f195 := Tryz.func88.trans (congrArg some (by kernel_rfl))
 f197 := Tryz.func89.trans (congrArg some (by kernel_rfl))
 f217 := Tryz.func103.trans (congrArg some (by kernel_rfl))
 f218 := Tryz.func90.trans (congrArg some (by kernel_rfl))
 f219 := Tryz.func91.trans (congrArg some (by kernel_rfl))
 f221 := Tryz.func46.trans (congrArg some (by kernel_rfl))
 f224 := Tryz.func105.trans (congrArg some (by kernel_rfl))
 f225 := Tryz.func104.trans (congrArg some (by kernel_rfl))
 f260 := Tryz.func102.trans (congrArg some (by kernel_rfl))
 f266 := Tryz.func114.trans (congrArg some (by kernel_rfl))
 f267 := Tryz.func106.trans (congrArg some (by kernel_rfl))
 f268 := Tryz.func67.trans (congrArg some (by kernel_rfl))
 f314 := Tryz.func115.trans (congrArg some (by kernel_rfl))
 t0 := Tryz.underlying0
 a0 := Tryz.isAgg0
 z0 := Tryz.sizeOf0
 v0 := Tryz.zeroValue0
 t3 := Tryz.underlying3
 a3 := Tryz.isAgg3
 z3 := Tryz.sizeOf3
 v3 := Tryz.zeroValue3
 t4 := Tryz.underlying4
 a4 := Tryz.isAgg4
 z4 := Tryz.sizeOf4
 v4 := Tryz.zeroValue4
 t5 := Tryz.underlying5
 a5 := Tryz.isAgg5
 z5 := Tryz.sizeOf5
 v5 := Tryz.zeroValue5
 t9 := Tryz.underlying9
 a9 := Tryz.isAgg9
 z9 := Tryz.sizeOf9
 v9 := Tryz.zeroValue9
 t21 := Tryz.underlying21
 a21 := Tryz.isAgg21
 z21 := Tryz.sizeOf21
 v21 := Tryz.zeroValue21
 t31 := Tryz.underlying56
 a31 := Tryz.isAgg56
 z31 := Tryz.sizeOf56
 v31 := Tryz.zeroValue56
 t46 := Tryz.underlying86
 a46 := Tryz.isAgg86
 z46 := Tryz.sizeOf86
 v46 := Tryz.zeroValue86
 t51 := Tryz.underlying124
 a51 := Tryz.isAgg124
 z51 := Tryz.sizeOf124
 v51 := Tryz.zeroValue124
 t105 := Tryz.underlying128
 a105 := Tryz.isAgg128
 z105 := Tryz.sizeOf128
 v105 := Tryz.zeroValue128
 t119 := Tryz.underlying117
 a119 := Tryz.isAgg117
 z119 := Tryz.sizeOf117
 t138 := Tryz.underlying119
 a138 := Tryz.isAgg119
 z138 := Tryz.sizeOf119
 v138 := Tryz.zeroValue119
 t139 := Tryz.underlying120
 a139 := Tryz.isAgg120
 z139 := Tryz.sizeOf120
 v139 := Tryz.zeroValue120
 t146 := Tryz.underlying150
 a146 := Tryz.isAgg150
 z146 := Tryz.sizeOf150
 v146 := Tryz.zeroValue150
 g1 := by kernel_rfl
 g3 := by kernel_rfl
 g4 := by kernel_rfl }
open Go.RowKit Go.Lib in
theorem Tryz.strings_SplitN (s sep : ByteArray) (n : Nat) (m : Int) (w : World) (hs : s.size < 4294967281) (hm : w.cell? ⟨5, 0, none⟩ = some (.int .i64 m)) (h1 : 1 <= sep.size) (hn : 1 <= n) (hn63 : n <= 9223372036854775807) :
  Calls Tryz.prog 22 #[.string s, .string sep, .int .i64 n] w fun e w' =>
   e = .returned (.slice (some ⟨w.heap.size, 0, none⟩) (Lib.splitB sep 0 (min n (s.size + 1) - 1) s).length (min n (s.size + 1))) /\ w' = w.alloc (.cells (Lib.cellsOf (Lib.splitB sep 0 (min n (s.size + 1) - 1) s) (min n (s.size + 1))) 9) := Any.strings_SplitN Tryz.lays147 (by kernel_rfl) s sep n m w hs hm h1 hn hn63
end Go.Proofs

/- The contracts of the shelf at this dump that the walks use, in plain words (the kit's lay-plain tool wrote them; a helper of mine kept those that are used). -/
namespace Go.Proofs
open Go.Shelf
def Tryz.laysM143_ren : Go.Shelf.Ren := ⟨fun | 143 => 69 | 219 => 91 | 217 => 103 | 225 => 104 | 224 => 105 | 267 => 106 | 266 => 114 | 314 => 115 | n => n, fun | 9 => 9 | 3 => 3 | 4 => 4 | 5 => 5 | 46 => 86 | 146 => 150 | 51 => 124 | n => n, fun | 1 => 5 | n => n⟩
theorem Tryz.laysM143 : Go.Proofs.LaysM.n143 Tryz.prog Tryz.laysM143_ren := {
 mixed := by kernel_rfl
 f143 := Tryz.func69.trans (congrArg some (by kernel_rfl))
 f217 := Tryz.func103.trans (congrArg some (by kernel_rfl))
 f219 := Tryz.func91.trans (congrArg some (by kernel_rfl))
 f224 := Tryz.func105.trans (congrArg some (by kernel_rfl))
 f225 := Tryz.func104.trans (congrArg some (by kernel_rfl))
 f266 := Tryz.func114.trans (congrArg some (by kernel_rfl))
 f267 := Tryz.func106.trans (congrArg some (by kernel_rfl))
 f314 := Tryz.func115.trans (congrArg some (by kernel_rfl))
 t3 := Tryz.underlying3
 a3 := Tryz.isAgg3
 z3 := Tryz.sizeOf3
 v3 := Tryz.zeroValue3
 t4 := Tryz.underlying4
 a4 := Tryz.isAgg4
 z4 := Tryz.sizeOf4
 v4 := Tryz.zeroValue4
 t5 := Tryz.underlying5
 a5 := Tryz.isAgg5
 z5 := Tryz.sizeOf5
 v5 := Tryz.zeroValue5
 t9 := Tryz.underlying9
 a9 := Tryz.isAgg9
 z9 := Tryz.sizeOf9
 v9 := Tryz.zeroValue9
 t46 := Tryz.underlying86
 a46 := Tryz.isAgg86
 z46 := Tryz.sizeOf86
 v46 := Tryz.zeroValue86
 t51 := Tryz.underlying124
 a51 := Tryz.isAgg124
 z51 := Tryz.sizeOf124
 v51 := Tryz.zeroValue124
 t146 := Tryz.underlying150
 a146 := Tryz.isAgg150
 z146 := Tryz.sizeOf150
 v146 := Tryz.zeroValue150
 g1 := by kernel_rfl
 i3 := by kernel_rfl
 i4 := by kernel_rfl
 i5 := by kernel_rfl
 i9 := by kernel_rfl
 i46 := by kernel_rfl
 i51 := by kernel_rfl
 i146 := by kernel_rfl
 m1 := by kernel_rfl
 s1_3 := fun w h => Go.Proofs.cell_of_shapedOpen_int (zero := #[.int .i64 0]) (t := 3) h (of_decide_eq_true (by kernel_rfl)) (by kernel_rfl) rfl (by kernel_rfl) (by kernel_rfl) Tryz.underlying3 }
end Go.Proofs
