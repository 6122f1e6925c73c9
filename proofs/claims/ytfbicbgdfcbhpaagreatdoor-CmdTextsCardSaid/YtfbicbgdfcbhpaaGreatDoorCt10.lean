/-
  Shelf.
-/
import Derived.Shelf.Strings.Builder1
import Derived.Shelf.Strings.Builder2
import Derived.Shelf.Strings.OnBuilder
import Derived.Shelf.Small.Utf8
import Derived.Shelf.Small.Strs
import Derived.Shelf.Strings.BuilderF
import Derived.Shelf.Strings.BuilderK
import Derived.Shelf.Utf8.RuneCount
import Derived.Shelf.Strings.Builder2Cap
import Derived.Shelf.Strconv.Atoi
import Derived.Shelf.Strconv.Itoa0
import Derived.Shelf.Strconv.Itoa1
import Derived.Shelf.LaysM
import Derived.Shelf.Strconv.Itoa2
import Derived.Shelf.Strconv.Itoa3
import Derived.Shelf.Strconv.AtoiErrFast
import Derived.Shelf.Strconv.ParseIntEmpty
import Derived.Shelf.Strconv.AtoiFail
import Derived.Shelf.Strconv.Clone
import Derived.Shelf.Strconv.SyntaxError
import Derived.Shelf.LaysC
import Derived.Shelf.Strconv.ToError
import Derived.Shelf.Strconv.AtoiErr
import Derived.Shelf.Strconv.ErrVar
import Derived.Shelf.Strconv.Lower
import Derived.Shelf.Strconv.ParseUint10
import Derived.Shelf.Strconv.ParseUint10Empty
import Derived.Shelf.Strconv.ParseUint10Any
import Derived.Shelf.Strconv.ParseInt10
import Derived.Shelf.Strconv.AtoiLong
import Derived.Shelf.Strconv.AtoiInnerAll
import Derived.Shelf.Strconv.RangeError
import Derived.Shelf.Strconv.ToErrorRange
import Derived.Shelf.Strconv.AtoiAll
import Derived.Shelf.Strconv.ErrVarAll
import Derived.Shelf.Strconv.ParseUintEmpty
import Derived.Shelf.Strconv.ParseUint10b64
import Derived.Shelf.Strconv.ParseUint10b32
import Derived.Shelf.Strconv.ParseUint10b16
import Derived.Shelf.Strconv.ParseUint10b8
import Derived.Shelf.Strconv.ParseUint10At
import Derived.Shelf.Strconv.ParseInt10At64
import Derived.Shelf.Strconv.ParseInt10At32
import Derived.Shelf.Strconv.ParseInt10At16
import Derived.Shelf.Strconv.ParseInt10At8
import Derived.Shelf.Strconv.ParseInt10All
import Derived.Ground.MpProg
import Derived.Shelf.Pu.ParseUintPublic10
import Derived.Shelf.Pu.ErrVarParseUint
import Derived.Shelf.Strings.Search1
import Derived.Shelf.Strings.Search2
import Derived.Shelf.Strings.Search3
import Derived.Shelf.Strings.Cut
import Derived.Shelf.Strings.Count
import Derived.Shelf.Strings.Shaped
import Derived.Shelf.Strings.Prefix
import Derived.Shelf.Strings.Split
import Derived.Shelf.Strings.SplitShaped
import Derived.Shelf.Unicode.Decode
import Derived.Shelf.Strings.Runes
import Derived.Shelf.Strings.RuneCount
import Derived.Shelf.Strings.IndexAny
import Derived.Shelf.Strings.AsciiSet
import Derived.Shelf.Strings.IndexAnyAll
import Derived.Shelf.Strings.Explode
import Derived.Shelf.Unicode.DecodeSlow
import Derived.Shelf.Unicode.DecodeAny
import Derived.Shelf.Slices.Equal
import Derived.Shelf.Slices.Empties2
import Derived.Test.YtfbicbgdfcbhpaaGreatDoorProg
namespace Go.Proofs
open Go.Shelf
def Tryz.lays169_ren : Go.Shelf.Ren := ⟨fun | 169 => 82 | n => n, fun | 70 => 103 | 9 => 9 | 0 => 0 | 72 => 105 | 37 => 25 | 127 => 129 | 3 => 3 | 5 => 5 | n => n, fun | n => n⟩
theorem Tryz.lays169 : Go.Proofs.Lays.n169 Tryz.prog Tryz.lays169_ren := {
 mixed := by kernel_rfl
 f169 := Tryz.func82.trans (congrArg some (by kernel_rfl))
 t0 := Tryz.underlying0
 a0 := Tryz.isAgg0
 z0 := Tryz.sizeOf0
 v0 := Tryz.zeroValue0
 t3 := Tryz.underlying3
 a3 := Tryz.isAgg3
 z3 := Tryz.sizeOf3
 v3 := Tryz.zeroValue3
 t9 := Tryz.underlying9
 a9 := Tryz.isAgg9
 z9 := Tryz.sizeOf9
 v9 := Tryz.zeroValue9
 t37 := Tryz.underlying25
 a37 := Tryz.isAgg25
 z37 := Tryz.sizeOf25
 v37 := Tryz.zeroValue25
 t70 := Tryz.underlying103
 a70 := Tryz.isAgg103
 z70 := Tryz.sizeOf103
 v70 := Tryz.zeroValue103
 t72 := Tryz.underlying105
 a72 := Tryz.isAgg105
 z72 := Tryz.sizeOf105
 v72 := Tryz.zeroValue105
 t127 := Tryz.underlying129
 a127 := Tryz.isAgg129
 z127 := Tryz.sizeOf129
 v127 := Tryz.zeroValue129 }
theorem Tryz.Builder_Extra_169 : Builder.Extra Tryz.prog Tryz.lays169_ren := {
 sizeBuilder := by kernel_rfl
 liesBuilder := by kernel_rfl
 t5 := Tryz.underlying5
 a5 := Tryz.isAgg5
 z5 := Tryz.sizeOf5
 v5 := Tryz.zeroValue5
 infoByte := by kernel_rfl
 cellsByte := by kernel_rfl
 sizeByte := by kernel_rfl
 neB5 := by decide }
open Go.RowKit in
theorem Tryz.Builder_String_any (B b : Nat) (l : List UInt8) (w : World) (h : Lib.IsBuilder 105 5 B b (Lib.byteCells l) w) (hBw : B ≤ w.heap.size) :
 Calls Tryz.prog 82 #[.pointer (some ⟨b, 0, none⟩)] w fun e w' => e = .returned (.string ⟨l.toArray⟩) ∧ Below B w w' := Any.Builder_String_any Tryz.lays169 Tryz.Builder_Extra_169 B b l w h hBw
def Tryz.lays137_ren : Go.Shelf.Ren := ⟨fun | 137 => 88 | 217 => 119 | 266 => 150 | n => n, fun | 9 => 9 | 5 => 5 | 3 => 3 | n => n, fun | n => n⟩
theorem Tryz.lays137 : Go.Proofs.Lays.n137 Tryz.prog Tryz.lays137_ren := {
 mixed := by kernel_rfl
 f137 := Tryz.func88.trans (congrArg some (by kernel_rfl))
 f217 := Tryz.func119.trans (congrArg some (by kernel_rfl))
 f266 := Tryz.func150.trans (congrArg some (by kernel_rfl))
 t3 := Tryz.underlying3
 a3 := Tryz.isAgg3
 z3 := Tryz.sizeOf3
 v3 := Tryz.zeroValue3
 t5 := Tryz.underlying5
 a5 := Tryz.isAgg5
 z5 := Tryz.sizeOf5
 v5 := Tryz.zeroValue5
 t9 := Tryz.underlying9
 a9 := Tryz.isAgg9
 z9 := Tryz.sizeOf9
 v9 := Tryz.zeroValue9 }
open Go.RowKit in
theorem Tryz.strings_IndexByte (s : ByteArray) (c : Int) (w : World) :
 Calls Tryz.prog 88 #[.string s, .int .u8 c] w fun e w' => e = .returned (.int .i64 (Lib.indexByte s.data.toList c.toNat.toUInt8)) ∧ w' = w := Any.strings_IndexByte Tryz.lays137 s c w
def Tryz.laysM246_ren : Go.Shelf.Ren := ⟨fun | 246 => 110 | 283 => 139 | 284 => 140 | 285 => 141 | 286 => 142 | 129 => 159 | 317 => 158 | 318 => 160 | 319 => 161 | 320 => 162 | 337 => 172 | 338 => 173 | n => n, fun | 2 => 2 | 3 => 3 | 9 => 9 | 4 => 4 | 171 => 143 | 0 => 0 | 53 => 138 | 37 => 25 | 5 => 5 | 173 => 146 | 212 => 159 | 51 => 153 | 20 => 20 | 213 => 160 | 46 => 102 | 232 => 178 | 233 => 179 | n => n, fun | 17 => 1 | 18 => 6 | 19 => 7 | n => n⟩
def Tryz.laysM243_ren : Go.Shelf.Ren := ⟨fun | 243 => 77 | 246 => 110 | 283 => 139 | 284 => 140 | 285 => 141 | 286 => 142 | 129 => 159 | 317 => 158 | 318 => 160 | 319 => 161 | 320 => 162 | 337 => 172 | 338 => 173 | n => n, fun | 3 => 3 | 9 => 9 | 2 => 2 | 4 => 4 | 171 => 143 | 0 => 0 | 53 => 138 | 37 => 25 | 5 => 5 | 173 => 146 | 212 => 159 | 51 => 153 | 20 => 20 | 213 => 160 | 46 => 102 | 232 => 178 | 233 => 179 | n => n, fun | 17 => 1 | 18 => 6 | 19 => 7 | n => n⟩
def Tryz.laysM171_ren : Go.Shelf.Ren := ⟨fun | 171 => 47 | 243 => 77 | 246 => 110 | 283 => 139 | 284 => 140 | 285 => 141 | 286 => 142 | 129 => 159 | 317 => 158 | 318 => 160 | 319 => 161 | 320 => 162 | 337 => 172 | 338 => 173 | n => n, fun | 3 => 3 | 9 => 9 | 2 => 2 | 4 => 4 | 171 => 143 | 0 => 0 | 53 => 138 | 37 => 25 | 5 => 5 | 173 => 146 | 212 => 159 | 51 => 153 | 20 => 20 | 213 => 160 | 46 => 102 | 232 => 178 | 233 => 179 | n => n, fun | 17 => 1 | 18 => 6 | 19 => 7 | n => n⟩
theorem Tryz.laysM171 : Go.Proofs.LaysM.n171 Tryz.prog Tryz.laysM171_ren := {
 mixed := by kernel_rfl
 f129 := Tryz.func159.trans (congrArg some (by kernel_rfl))
 f171 := Tryz.func47.trans (congrArg some (by kernel_rfl))
 f243 := Tryz.func77.trans (congrArg some (by kernel_rfl))
 f246 := Tryz.func110.trans (congrArg some (by kernel_rfl))
 f283 := Tryz.func139.trans (congrArg some (by kernel_rfl))
 f284 := Tryz.func140.trans (congrArg some (by kernel_rfl))
 f285 := Tryz.func141.trans (congrArg some (by kernel_rfl))
 f286 := Tryz.func142.trans (congrArg some (by kernel_rfl))
 f317 := Tryz.func158.trans (congrArg some (by kernel_rfl))
 f318 := Tryz.func160.trans (congrArg some (by kernel_rfl))
 f319 := Tryz.func161.trans (congrArg some (by kernel_rfl))
 f320 := Tryz.func162.trans (congrArg some (by kernel_rfl))
 f337 := Tryz.func172.trans (congrArg some (by kernel_rfl))
 f338 := Tryz.func173.trans (congrArg some (by kernel_rfl))
 t0 := Tryz.underlying0
 a0 := Tryz.isAgg0
 z0 := Tryz.sizeOf0
 v0 := Tryz.zeroValue0
 t2 := Tryz.underlying2
 a2 := Tryz.isAgg2
 z2 := Tryz.sizeOf2
 v2 := Tryz.zeroValue2
 t3 := Tryz.underlying3
 a3 := Tryz.isAgg3
 z3 := Tryz.sizeOf3
 v3 := Tryz.zeroValue3
 t4 := Tryz.underlying4
 a4 := Tryz.isAgg4
 z4 := Tryz.sizeOf4
 v4 := Tryz.zeroValue4
 t5 := Tryz.underlying5
 a5 := Tryz.isAgg5
 z5 := Tryz.sizeOf5
 v5 := Tryz.zeroValue5
 t9 := Tryz.underlying9
 a9 := Tryz.isAgg9
 z9 := Tryz.sizeOf9
 v9 := Tryz.zeroValue9
 t20 := Tryz.underlying20
 a20 := Tryz.isAgg20
 z20 := Tryz.sizeOf20
 v20 := Tryz.zeroValue20
 t37 := Tryz.underlying25
 a37 := Tryz.isAgg25
 z37 := Tryz.sizeOf25
 v37 := Tryz.zeroValue25
 t46 := Tryz.underlying102
 a46 := Tryz.isAgg102
 z46 := Tryz.sizeOf102
 v46 := Tryz.zeroValue102
 t51 := Tryz.underlying153
 a51 := Tryz.isAgg153
 z51 := Tryz.sizeOf153
 v51 := Tryz.zeroValue153
 t53 := Tryz.underlying138
 a53 := Tryz.isAgg138
 z53 := Tryz.sizeOf138
 v53 := Tryz.zeroValue138
 t171 := Tryz.underlying143
 a171 := Tryz.isAgg143
 z171 := Tryz.sizeOf143
 v171 := Tryz.zeroValue143
 t173 := Tryz.underlying146
 a173 := Tryz.isAgg146
 z173 := Tryz.sizeOf146
 v173 := Tryz.zeroValue146
 t212 := Tryz.underlying159
 a212 := Tryz.isAgg159
 z212 := Tryz.sizeOf159
 v212 := Tryz.zeroValue159
 t213 := Tryz.underlying160
 a213 := Tryz.isAgg160
 z213 := Tryz.sizeOf160
 t232 := Tryz.underlying178
 a232 := Tryz.isAgg178
 z232 := Tryz.sizeOf178
 v232 := Tryz.zeroValue178
 t233 := Tryz.underlying179
 a233 := Tryz.isAgg179
 z233 := Tryz.sizeOf179
 v233 := Tryz.zeroValue179
 g17 := by kernel_rfl
 g18 := by kernel_rfl
 g19 := by kernel_rfl
 i0 := by kernel_rfl
 i2 := by kernel_rfl
 i3 := by kernel_rfl
 i4 := by kernel_rfl
 i5 := by kernel_rfl
 i9 := by kernel_rfl
 i20 := by kernel_rfl
 i37 := by kernel_rfl
 i46 := by kernel_rfl
 i51 := by kernel_rfl
 i53 := by kernel_rfl
 i171 := by kernel_rfl
 i173 := by kernel_rfl
 i212 := by kernel_rfl
 i232 := by kernel_rfl
 i233 := by kernel_rfl
 m17 := by kernel_rfl
 m18 := by kernel_rfl
 m19 := by kernel_rfl }
open Go.RowKit Go.Sort Go.Lib in
theorem Tryz.strconv_Itoa (n : Int) (h0 : -9223372036854775808 ≤ n) (h1 : n ≤ 9223372036854775807) (w : World) (htab : Lib.TabIs Tryz.prog w "internal/strconv.uint64pow10" .u64 Lib.pow10Tab) :
 Calls Tryz.prog 47 #[.int .i64 n] w fun e w' => e = .returned (.string ⟨(Lib.itoa n).toArray⟩) ∧ ∃ k os, w' = grow (w.drewN k) os := Any.strconv_Itoa Tryz.laysM171 n h0 h1 w htab
def Tryz.laysPu14_ren : Go.Shelf.Ren := ⟨fun | 14 => 134 | 16 => 156 | 17 => 153 | 19 => 170 | 20 => 171 | 21 => 165 | 22 => 166 | 23 => 167 | 24 => 168 | 25 => 174 | 27 => 47 | 26 => 175 | 28 => 77 | 29 => 110 | 30 => 139 | 31 => 140 | 32 => 141 | 33 => 142 | 35 => 159 | 34 => 158 | 36 => 160 | 37 => 161 | 38 => 162 | 39 => 172 | 40 => 173 | n => n, fun | 9 => 9 | 3 => 3 | 22 => 138 | 24 => 108 | 25 => 139 | 4 => 4 | 34 => 162 | 5 => 5 | 36 => 102 | 37 => 25 | 0 => 0 | 39 => 165 | 21 => 21 | 44 => 176 | 47 => 129 | 50 => 182 | 48 => 180 | 2 => 2 | 52 => 143 | 55 => 146 | 59 => 159 | 60 => 153 | 20 => 20 | 61 => 160 | 65 => 178 | 66 => 179 | 67 => 111 | n => n, fun | 0 => 4 | 1 => 5 | 2 => 1 | 3 => 6 | 4 => 7 | n => n⟩
theorem Tryz.laysPu14 : Go.Proofs.LaysPu.n14 Tryz.prog Tryz.laysPu14_ren := {
 mixed := by kernel_rfl
 f14 := Tryz.func134.trans (congrArg some (by kernel_rfl))
 f16 := Tryz.func156.trans (congrArg some (by kernel_rfl))
 f17 := Tryz.func153.trans (congrArg some (by kernel_rfl))
 f19 := Tryz.func170.trans (congrArg some (by kernel_rfl))
 f20 := Tryz.func171.trans (congrArg some (by kernel_rfl))
 f21 := Tryz.func165.trans (congrArg some (by kernel_rfl))
 f22 := Tryz.func166.trans (congrArg some (by kernel_rfl))
 f23 := Tryz.func167.trans (congrArg some (by kernel_rfl))
 f24 := Tryz.func168.trans (congrArg some (by kernel_rfl))
 f25 := Tryz.func174.trans (congrArg some (by kernel_rfl))
 f26 := Tryz.func175.trans (congrArg some (by kernel_rfl))
 f27 := Tryz.func47.trans (congrArg some (by kernel_rfl))
 f28 := Tryz.func77.trans (congrArg some (by kernel_rfl))
 f29 := Tryz.func110.trans (congrArg some (by kernel_rfl))
 f30 := Tryz.func139.trans (congrArg some (by kernel_rfl))
 f31 := Tryz.func140.trans (congrArg some (by kernel_rfl))
 f32 := Tryz.func141.trans (congrArg some (by kernel_rfl))
 f33 := Tryz.func142.trans (congrArg some (by kernel_rfl))
 f34 := Tryz.func158.trans (congrArg some (by kernel_rfl))
 f35 := Tryz.func159.trans (congrArg some (by kernel_rfl))
 f36 := Tryz.func160.trans (congrArg some (by kernel_rfl))
 f37 := Tryz.func161.trans (congrArg some (by kernel_rfl))
 f38 := Tryz.func162.trans (congrArg some (by kernel_rfl))
 f39 := Tryz.func172.trans (congrArg some (by kernel_rfl))
 f40 := Tryz.func173.trans (congrArg some (by kernel_rfl))
 t0 := Tryz.underlying0
 a0 := Tryz.isAgg0
 z0 := Tryz.sizeOf0
 v0 := Tryz.zeroValue0
 i0 := by kernel_rfl
 t2 := Tryz.underlying2
 a2 := Tryz.isAgg2
 z2 := Tryz.sizeOf2
 v2 := Tryz.zeroValue2
 i2 := by kernel_rfl
 t3 := Tryz.underlying3
 a3 := Tryz.isAgg3
 z3 := Tryz.sizeOf3
 v3 := Tryz.zeroValue3
 i3 := by kernel_rfl
 t4 := Tryz.underlying4
 a4 := Tryz.isAgg4
 z4 := Tryz.sizeOf4
 v4 := Tryz.zeroValue4
 i4 := by kernel_rfl
 t5 := Tryz.underlying5
 a5 := Tryz.isAgg5
 z5 := Tryz.sizeOf5
 v5 := Tryz.zeroValue5
 i5 := by kernel_rfl
 t9 := Tryz.underlying9
 a9 := Tryz.isAgg9
 z9 := Tryz.sizeOf9
 v9 := Tryz.zeroValue9
 i9 := by kernel_rfl
 t20 := Tryz.underlying20
 a20 := Tryz.isAgg20
 z20 := Tryz.sizeOf20
 v20 := Tryz.zeroValue20
 i20 := by kernel_rfl
 t21 := Tryz.underlying21
 a21 := Tryz.isAgg21
 z21 := Tryz.sizeOf21
 v21 := Tryz.zeroValue21
 i21 := by kernel_rfl
 t22 := Tryz.underlying138
 a22 := Tryz.isAgg138
 z22 := Tryz.sizeOf138
 v22 := Tryz.zeroValue138
 i22 := by kernel_rfl
 t24 := Tryz.underlying108
 a24 := Tryz.isAgg108
 z24 := Tryz.sizeOf108
 v24 := Tryz.zeroValue108
 i24 := by kernel_rfl
 t25 := Tryz.underlying139
 a25 := Tryz.isAgg139
 z25 := Tryz.sizeOf139
 v25 := Tryz.zeroValue139
 i25 := by kernel_rfl
 t34 := Tryz.underlying162
 a34 := Tryz.isAgg162
 z34 := Tryz.sizeOf162
 v34 := Tryz.zeroValue162
 i34 := by kernel_rfl
 c34 := by kernel_rfl
 t36 := Tryz.underlying102
 a36 := Tryz.isAgg102
 z36 := Tryz.sizeOf102
 v36 := Tryz.zeroValue102
 i36 := by kernel_rfl
 t37 := Tryz.underlying25
 a37 := Tryz.isAgg25
 z37 := Tryz.sizeOf25
 v37 := Tryz.zeroValue25
 i37 := by kernel_rfl
 t39 := Tryz.underlying165
 a39 := Tryz.isAgg165
 z39 := Tryz.sizeOf165
 v39 := Tryz.zeroValue165
 i39 := by kernel_rfl
 t44 := Tryz.underlying176
 a44 := Tryz.isAgg176
 z44 := Tryz.sizeOf176
 v44 := Tryz.zeroValue176
 i44 := by kernel_rfl
 t47 := Tryz.underlying129
 a47 := Tryz.isAgg129
 z47 := Tryz.sizeOf129
 v47 := Tryz.zeroValue129
 i47 := by kernel_rfl
 t48 := Tryz.underlying180
 a48 := Tryz.isAgg180
 z48 := Tryz.sizeOf180
 v48 := Tryz.zeroValue180
 i48 := by kernel_rfl
 t50 := Tryz.underlying182
 a50 := Tryz.isAgg182
 z50 := Tryz.sizeOf182
 v50 := Tryz.zeroValue182
 i50 := by kernel_rfl
 t52 := Tryz.underlying143
 a52 := Tryz.isAgg143
 z52 := Tryz.sizeOf143
 v52 := Tryz.zeroValue143
 i52 := by kernel_rfl
 t55 := Tryz.underlying146
 a55 := Tryz.isAgg146
 z55 := Tryz.sizeOf146
 v55 := Tryz.zeroValue146
 i55 := by kernel_rfl
 t59 := Tryz.underlying159
 a59 := Tryz.isAgg159
 z59 := Tryz.sizeOf159
 v59 := Tryz.zeroValue159
 i59 := by kernel_rfl
 t60 := Tryz.underlying153
 a60 := Tryz.isAgg153
 z60 := Tryz.sizeOf153
 v60 := Tryz.zeroValue153
 i60 := by kernel_rfl
 t61 := Tryz.underlying160
 a61 := Tryz.isAgg160
 z61 := Tryz.sizeOf160
 t65 := Tryz.underlying178
 a65 := Tryz.isAgg178
 z65 := Tryz.sizeOf178
 v65 := Tryz.zeroValue178
 i65 := by kernel_rfl
 t66 := Tryz.underlying179
 a66 := Tryz.isAgg179
 z66 := Tryz.sizeOf179
 v66 := Tryz.zeroValue179
 i66 := by kernel_rfl
 t67 := Tryz.underlying111
 a67 := Tryz.isAgg111
 z67 := Tryz.sizeOf111
 v67 := Tryz.zeroValue111
 i67 := by kernel_rfl
 g0 := by kernel_rfl
 m0 := by kernel_rfl
 g1 := by kernel_rfl
 m1 := by kernel_rfl
 g2 := by kernel_rfl
 m2 := by kernel_rfl
 g3 := by kernel_rfl
 m3 := by kernel_rfl
 g4 := by kernel_rfl
 m4 := by kernel_rfl }
open Go.RowKit in
theorem Tryz.strconv_ParseUint_10_at64_ok (s : ByteArray) (hmax : s.size ≤ 9223372036854775806) (u : Nat) (h : Lib.parseUintB 64 s.data.toList = .ok u) (w : World) :
 Calls Tryz.prog 134 #[.string s, .int .i64 10, .int .i64 64] w fun e w' => e = .returned (.tuple #[.int .u64 u, .nilIface]) ∧ (w' = w ∨ w' = Lib.bytesWorld w 5 s) := Any.strconv_ParseUint_10_at64_ok Tryz.laysPu14 s hmax u h w
open Go.RowKit in
open Go.RowKit in
theorem Tryz.strconv_ParseUint_10_at64_range (s : ByteArray) (hlim : s.size ≤ 281474976710656) (h : Lib.parseUintB 64 s.data.toList = .range) (ev : Value) (w : World) (hv : w.cell? ⟨5, 0, none⟩ = some ev) (hev : ev = .nilIface ∨ ∃ te pe, ev = .iface te pe) :
 Calls Tryz.prog 134 #[.string s, .int .i64 10, .int .i64 64] w fun e w' => ∃ N, e = .returned (.tuple #[.int .u64 18446744073709551615, .iface 165 (.pointer (some ⟨N, 0, none⟩))]) ∧ w.heap.size ≤ N ∧ w'.heap[N]? = some (.cells #[.string ⟨#[80, 97, 114, 115, 101, 85, 105, 110, 116]⟩, .string s, ev] 176 (0, 0)) ∧ Below w.heap.size w w' := Any.strconv_ParseUint_10_at64_range Tryz.laysPu14 s hlim h ev w hv hev
def Tryz.lays219_ren : Go.Shelf.Ren := ⟨fun | 219 => 87 | 217 => 119 | 225 => 120 | 224 => 121 | 267 => 122 | 266 => 150 | 314 => 151 | n => n, fun | 9 => 9 | 3 => 3 | 4 => 4 | 5 => 5 | 46 => 102 | 146 => 154 | 51 => 153 | n => n, fun | 1 => 0 | n => n⟩
def Tryz.lays145_ren : Go.Shelf.Ren := ⟨fun | 145 => 29 | 220 => 64 | 219 => 87 | 217 => 119 | 225 => 120 | 224 => 121 | 267 => 122 | 266 => 150 | 314 => 151 | n => n, fun | 9 => 9 | 4 => 4 | 59 => 62 | 3 => 3 | 5 => 5 | 46 => 102 | 146 => 154 | 51 => 153 | n => n, fun | 1 => 0 | n => n⟩
theorem Tryz.lays145 : Go.Proofs.Lays.n145 Tryz.prog Tryz.lays145_ren := {
 mixed := by kernel_rfl
 f145 := Tryz.func29.trans (congrArg some (by kernel_rfl))
 f217 := Tryz.func119.trans (congrArg some (by kernel_rfl))
 f219 := Tryz.func87.trans (congrArg some (by kernel_rfl))
 f220 := Tryz.func64.trans (congrArg some (by kernel_rfl))
 f224 := Tryz.func121.trans (congrArg some (by kernel_rfl))
 f225 := Tryz.func120.trans (congrArg some (by kernel_rfl))
 f266 := Tryz.func150.trans (congrArg some (by kernel_rfl))
 f267 := Tryz.func122.trans (congrArg some (by kernel_rfl))
 f314 := Tryz.func151.trans (congrArg some (by kernel_rfl))
 t3 := Tryz.underlying3
 a3 := Tryz.isAgg3
 z3 := Tryz.sizeOf3
 v3 := Tryz.zeroValue3
 t4 := Tryz.underlying4
 a4 := Tryz.isAgg4
 z4 := Tryz.sizeOf4
 v4 := Tryz.zeroValue4
 t5 := Tryz.underlying5
 a5 := Tryz.isAgg5
 z5 := Tryz.sizeOf5
 v5 := Tryz.zeroValue5
 t9 := Tryz.underlying9
 a9 := Tryz.isAgg9
 z9 := Tryz.sizeOf9
 v9 := Tryz.zeroValue9
 t46 := Tryz.underlying102
 a46 := Tryz.isAgg102
 z46 := Tryz.sizeOf102
 v46 := Tryz.zeroValue102
 t51 := Tryz.underlying153
 a51 := Tryz.isAgg153
 z51 := Tryz.sizeOf153
 v51 := Tryz.zeroValue153
 t59 := Tryz.underlying62
 a59 := Tryz.isAgg62
 z59 := Tryz.sizeOf62
 v59 := Tryz.zeroValue62
 t146 := Tryz.underlying154
 a146 := Tryz.isAgg154
 z146 := Tryz.sizeOf154
 v146 := Tryz.zeroValue154
 g1 := by kernel_rfl }
open Go.RowKit Go.Lib in
theorem Tryz.strings_Cut (s sep : ByteArray) (m : Int) (w : World) (hs : s.size < 4294967281) (hm : w.cell? ⟨0, 0, none⟩ = some (.int .i64 m)) :
 Calls Tryz.prog 29 #[.string s, .string sep] w fun e w' => e = .returned (.tuple #[.string ⟨(Lib.cut s.data.toList sep.data.toList).1.toArray⟩, .string ⟨(Lib.cut s.data.toList sep.data.toList).2.1.toArray⟩, .bool (Lib.cut s.data.toList sep.data.toList).2.2]) ∧ ∃ n, w' = w.drewN n := Any.strings_Cut Tryz.lays145 s sep m w hs hm
def Tryz.lays206_ren : Go.Shelf.Ren := ⟨fun | 206 => 132 | n => n, fun | 9 => 9 | 4 => 4 | 3 => 3 | n => n, fun | n => n⟩
def Tryz.lays99_ren : Go.Shelf.Ren := ⟨fun | 99 => 94 | 206 => 132 | n => n, fun | 9 => 9 | 4 => 4 | 3 => 3 | n => n, fun | n => n⟩
theorem Tryz.lays99 : Go.Proofs.Lays.n99 Tryz.prog Tryz.lays99_ren := {
 mixed := by kernel_rfl
 f99 := Tryz.func94.trans (congrArg some (by kernel_rfl))
 f206 := Tryz.func132.trans (congrArg some (by kernel_rfl))
 t3 := Tryz.underlying3
 a3 := Tryz.isAgg3
 z3 := Tryz.sizeOf3
 v3 := Tryz.zeroValue3
 t4 := Tryz.underlying4
 a4 := Tryz.isAgg4
 z4 := Tryz.sizeOf4
 v4 := Tryz.zeroValue4
 t9 := Tryz.underlying9
 a9 := Tryz.isAgg9
 z9 := Tryz.sizeOf9
 v9 := Tryz.zeroValue9 }
open Go.RowKit Go.Lib in
theorem Tryz.strings_HasPrefix (s p : ByteArray) (w : World) :
 Calls Tryz.prog 94 #[.string s, .string p] w fun e w' => e = .returned (.bool (Lib.hasPrefix s.data.toList p.data.toList)) ∧ w' = w := Any.strings_HasPrefix Tryz.lays99 s p w
def Tryz.lays221_ren : Go.Shelf.Ren := ⟨fun | 221 => 79 | 268 => 113 | 138 => 114 | 143 => 115 | 195 => 145 | 197 => 146 | 218 => 147 | 219 => 87 | 260 => 163 | 217 => 119 | 225 => 120 | 224 => 121 | 267 => 122 | 266 => 150 | 314 => 151 | n => n, fun | 9 => 9 | 3 => 3 | 31 => 24 | 4 => 4 | 0 => 0 | 105 => 148 | 21 => 21 | 5 => 5 | 46 => 102 | 119 => 171 | 139 => 174 | 138 => 173 | 146 => 154 | 51 => 153 | n => n, fun | 1 => 0 | 3 => 2 | 4 => 3 | n => n⟩
def Tryz.lays146_ren : Go.Shelf.Ren := ⟨fun | 146 => 50 | 221 => 79 | 268 => 113 | 138 => 114 | 143 => 115 | 195 => 145 | 197 => 146 | 218 => 147 | 219 => 87 | 260 => 163 | 217 => 119 | 225 => 120 | 224 => 121 | 267 => 122 | 266 => 150 | 314 => 151 | n => n, fun | 9 => 9 | 31 => 24 | 3 => 3 | 4 => 4 | 0 => 0 | 105 => 148 | 21 => 21 | 5 => 5 | 46 => 102 | 119 => 171 | 139 => 174 | 138 => 173 | 146 => 154 | 51 => 153 | n => n, fun | 1 => 0 | 3 => 2 | 4 => 3 | n => n⟩
theorem Tryz.lays146 : Go.Proofs.Lays.n146 Tryz.prog Tryz.lays146_ren := {
 mixed := by kernel_rfl
 f138 := Tryz.func114.trans (congrArg some (by kernel_rfl))
 f143 := Tryz.func115.trans (congrArg some (by kernel_rfl))
 f146 := Tryz.func50.trans (congrArg some (by kernel_rfl))
 f195 := Tryz.func145.trans (congrArg some (by kernel_rfl))
 f197 := Tryz.func146.trans (congrArg some (by kernel_rfl))
 f217 := Tryz.func119.trans (congrArg some (by kernel_rfl))
 f218 := Tryz.func147.trans (congrArg some (by kernel_rfl))
 f219 := Tryz.func87.trans (congrArg some (by kernel_rfl))
 f221 := Tryz.func79.trans (congrArg some (by kernel_rfl))
 f224 := Tryz.func121.trans (congrArg some (by kernel_rfl))
 f225 := Tryz.func120.trans (congrArg some (by kernel_rfl))
 f260 := Tryz.func163.trans (congrArg some (by kernel_rfl))
 f266 := Tryz.func150.trans (congrArg some (by kernel_rfl))
 f267 := Tryz.func122.trans (congrArg some (by kernel_rfl))
 f268 := Tryz.func113.trans (congrArg some (by kernel_rfl))
 f314 := Tryz.func151.trans (congrArg some (by kernel_rfl))
 t0 := Tryz.underlying0
 a0 := Tryz.isAgg0
 z0 := Tryz.sizeOf0
 v0 := Tryz.zeroValue0
 t3 := Tryz.underlying3
 a3 := Tryz.isAgg3
 z3 := Tryz.sizeOf3
 v3 := Tryz.zeroValue3
 t4 := Tryz.underlying4
 a4 := Tryz.isAgg4
 z4 := Tryz.sizeOf4
 v4 := Tryz.zeroValue4
 t5 := Tryz.underlying5
 a5 := Tryz.isAgg5
 z5 := Tryz.sizeOf5
 v5 := Tryz.zeroValue5
 t9 := Tryz.underlying9
 a9 := Tryz.isAgg9
 z9 := Tryz.sizeOf9
 v9 := Tryz.zeroValue9
 t21 := Tryz.underlying21
 a21 := Tryz.isAgg21
 z21 := Tryz.sizeOf21
 v21 := Tryz.zeroValue21
 t31 := Tryz.underlying24
 a31 := Tryz.isAgg24
 z31 := Tryz.sizeOf24
 v31 := Tryz.zeroValue24
 t46 := Tryz.underlying102
 a46 := Tryz.isAgg102
 z46 := Tryz.sizeOf102
 v46 := Tryz.zeroValue102
 t51 := Tryz.underlying153
 a51 := Tryz.isAgg153
 z51 := Tryz.sizeOf153
 v51 := Tryz.zeroValue153
 t105 := Tryz.underlying148
 a105 := Tryz.isAgg148
 z105 := Tryz.sizeOf148
 v105 := Tryz.zeroValue148
 t119 := Tryz.underlying171
 a119 := Tryz.isAgg171
 z119 := Tryz.sizeOf171
 t138 := Tryz.underlying173
 a138 := Tryz.isAgg173
 z138 := Tryz.sizeOf173
 v138 := Tryz.zeroValue173
 t139 := Tryz.underlying174
 a139 := Tryz.isAgg174
 z139 := Tryz.sizeOf174
 v139 := Tryz.zeroValue174
 t146 := Tryz.underlying154
 a146 := Tryz.isAgg154
 z146 := Tryz.sizeOf154
 v146 := Tryz.zeroValue154
 g1 := by kernel_rfl
 g3 := by kernel_rfl
 g4 := by kernel_rfl }
open Go.RowKit Go.Lib in
theorem Tryz.strings_Split (s sep : ByteArray) (m : Int) (w : World) (hs : s.size < 4294967281) (hm : w.cell? ⟨0, 0, none⟩ = some (.int .i64 m)) (h1 : 1 ≤ sep.size) :
 Calls Tryz.prog 50 #[.string s, .string sep] w fun e w' =>
  e = .returned (.slice (some ⟨w.heap.size, 0, none⟩) (Lib.countB s sep + 1) (Lib.countB s sep + 1)) ∧ w' = w.alloc (.cells ((Lib.splitB sep 0 (Lib.countB s sep) s).map Value.string).toArray 9) := Any.strings_Split Tryz.lays146 (by kernel_rfl) s sep m w hs hm h1
def Tryz.lays150_ren : Go.Shelf.Ren := ⟨fun | 150 => 70 | 153 => 93 | 152 => 128 | 226 => 129 | 227 => 130 | 228 => 131 | 137 => 88 | 119 => 154 | 224 => 121 | 225 => 120 | 217 => 119 | 266 => 150 | n => n, fun | 9 => 9 | 4 => 4 | 3 => 3 | 5 => 5 | 21 => 21 | 117 => 136 | 116 => 135 | 0 => 0 | 46 => 102 | 124 => 158 | n => n, fun | n => n⟩
theorem Tryz.lays150 : Go.Proofs.Lays.n150 Tryz.prog Tryz.lays150_ren := {
 mixed := by kernel_rfl
 f119 := Tryz.func154.trans (congrArg some (by kernel_rfl))
 f137 := Tryz.func88.trans (congrArg some (by kernel_rfl))
 f150 := Tryz.func70.trans (congrArg some (by kernel_rfl))
 f152 := Tryz.func128.trans (congrArg some (by kernel_rfl))
 f153 := Tryz.func93.trans (congrArg some (by kernel_rfl))
 f217 := Tryz.func119.trans (congrArg some (by kernel_rfl))
 f224 := Tryz.func121.trans (congrArg some (by kernel_rfl))
 f225 := Tryz.func120.trans (congrArg some (by kernel_rfl))
 f226 := Tryz.func129.trans (congrArg some (by kernel_rfl))
 f227 := Tryz.func130.trans (congrArg some (by kernel_rfl))
 f228 := Tryz.func131.trans (congrArg some (by kernel_rfl))
 f266 := Tryz.func150.trans (congrArg some (by kernel_rfl))
 t0 := Tryz.underlying0
 a0 := Tryz.isAgg0
 z0 := Tryz.sizeOf0
 v0 := Tryz.zeroValue0
 t3 := Tryz.underlying3
 a3 := Tryz.isAgg3
 z3 := Tryz.sizeOf3
 v3 := Tryz.zeroValue3
 t4 := Tryz.underlying4
 a4 := Tryz.isAgg4
 z4 := Tryz.sizeOf4
 v4 := Tryz.zeroValue4
 t5 := Tryz.underlying5
 a5 := Tryz.isAgg5
 z5 := Tryz.sizeOf5
 v5 := Tryz.zeroValue5
 t9 := Tryz.underlying9
 a9 := Tryz.isAgg9
 z9 := Tryz.sizeOf9
 v9 := Tryz.zeroValue9
 t21 := Tryz.underlying21
 a21 := Tryz.isAgg21
 z21 := Tryz.sizeOf21
 v21 := Tryz.zeroValue21
 t46 := Tryz.underlying102
 a46 := Tryz.isAgg102
 z46 := Tryz.sizeOf102
 v46 := Tryz.zeroValue102
 t116 := Tryz.underlying135
 a116 := Tryz.isAgg135
 z116 := Tryz.sizeOf135
 t117 := Tryz.underlying136
 a117 := Tryz.isAgg136
 z117 := Tryz.sizeOf136
 v117 := Tryz.zeroValue136
 t124 := Tryz.underlying158
 a124 := Tryz.isAgg158
 z124 := Tryz.sizeOf158
 v124 := Tryz.zeroValue158 }
open Go.RowKit Go.Lib in
theorem Tryz.strings_ContainsAny_laid (s chars : ByteArray) (w : World) (hs : s.size < 4294967281) (hcs : chars.size < 4294967281) (has : ∀ (j : Nat) b, s.data.toList[j]? = some b → b.toNat < 128) (hac : ∀ (j : Nat) b, chars.data.toList[j]? = some b → b.toNat < 128) :
 Calls Tryz.prog 70 #[.string s, .string chars] w fun e w' => e = .returned (.bool (Lib.containsAny s.data.toList chars.data.toList)) ∧ Below w.heap.size w w' := Any.strings_ContainsAny_laid Tryz.lays150 (by kernel_rfl) s chars w hs hcs has hac
end Go.Proofs
