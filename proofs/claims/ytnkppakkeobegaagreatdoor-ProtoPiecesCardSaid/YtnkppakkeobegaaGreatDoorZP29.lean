/-
  Shelf.
-/
import Derived.Shelf.Strings.Builder1
import Derived.Shelf.Small.Utf8
import Derived.Shelf.Small.Strs
import Derived.Shelf.Strings.BuilderF
import Derived.Shelf.Strings.BuilderK
import Derived.Shelf.Utf8.RuneCount
import Derived.Shelf.Strconv.Atoi
import Derived.Shelf.Strconv.Itoa0
import Derived.Shelf.Strconv.Itoa1
import Derived.Shelf.LaysM
import Derived.Shelf.Strconv.Itoa2
import Derived.Shelf.Strconv.Itoa3
import Derived.Shelf.Bytes.Len
import Derived.Shelf.Bytes.TryGrow
import Derived.Shelf.Bytes.GrowSliceCatch
import Derived.Shelf.Bytes.GrowSlice
import Derived.Shelf.Bytes.GrowRow0
import Derived.Shelf.Bytes.GrowRow
import Derived.Shelf.Bytes.GrowNil
import Derived.Shelf.Bytes.Grow
import Derived.Shelf.Bytes.WriteByte
import Derived.Shelf.Bytes.WriteString
import Derived.Shelf.Bytes.Reset
import Derived.Shelf.Bytes.Bytes
import Derived.Shelf.Strconv.AtoiErrFast
import Derived.Shelf.Strconv.ParseIntEmpty
import Derived.Shelf.Strconv.AtoiFail
import Derived.Shelf.Strconv.Clone
import Derived.Shelf.Strconv.SyntaxError
import Derived.Shelf.LaysC
import Derived.Shelf.Strconv.ToError
import Derived.Shelf.Strconv.AtoiErr
import Derived.Shelf.Strconv.ErrVar
import Derived.Shelf.Strconv.Lower
import Derived.Shelf.Strconv.ParseUint10
import Derived.Shelf.Strconv.ParseUint10Empty
import Derived.Shelf.Strconv.ParseUint10Any
import Derived.Shelf.Strconv.ParseInt10
import Derived.Shelf.Strconv.AtoiLong
import Derived.Shelf.Strconv.AtoiInnerAll
import Derived.Shelf.Strconv.RangeError
import Derived.Shelf.Strconv.ToErrorRange
import Derived.Shelf.Strconv.AtoiAll
import Derived.Shelf.Strconv.ErrVarAll
import Derived.Shelf.Strconv.ParseUintEmpty
import Derived.Shelf.Strconv.ParseUint10b64
import Derived.Shelf.Strconv.ParseUint10b32
import Derived.Shelf.Strconv.ParseUint10b16
import Derived.Shelf.Strconv.ParseUint10b8
import Derived.Shelf.Strconv.ParseUint10At
import Derived.Shelf.Strconv.ParseInt10At64
import Derived.Shelf.Strconv.ParseInt10At32
import Derived.Shelf.Strconv.ParseInt10At16
import Derived.Shelf.Strconv.ParseInt10At8
import Derived.Shelf.Strconv.ParseInt10All
import Derived.Ground.MpProg
import Derived.Shelf.Pu.ParseUintPublic10
import Derived.Shelf.Pu.ErrVarParseUint
import Derived.Shelf.Strings.Search1
import Derived.Shelf.Bytes.GrowRow0Kept
import Derived.Shelf.Strings.Search2
import Derived.Shelf.Bytes.GrowRowKept
import Derived.Shelf.Strings.Search3
import Derived.Shelf.Bytes.GrowNilKept
import Derived.Shelf.Strings.Cut
import Derived.Shelf.Bytes.GrowKept
import Derived.Shelf.Strings.Count
import Derived.Shelf.Bytes.WriteByteKept
import Derived.Shelf.Strings.Shaped
import Derived.Shelf.Bytes.WriteStringKept
import Derived.Shelf.Bytes.ResetKept
import Derived.Shelf.Bytes.BufferK
import Derived.Shelf.Bytes.GrowRow0Own
import Derived.Shelf.Bytes.GrowRowOwn
import Derived.Shelf.Bytes.GrowNilOwn
import Derived.Shelf.Bytes.GrowOwn
import Derived.Shelf.Bytes.LenAt
import Derived.Shelf.Bytes.TryGrowAt
import Derived.Shelf.Bytes.GrowRow0At
import Derived.Shelf.Bytes.GrowRowAt
import Derived.Shelf.Bytes.GrowNilAt
import Derived.Shelf.Bytes.GrowAt
import Derived.Shelf.Bytes.WriteByteAt
import Derived.Shelf.Bytes.WriteStringAt
import Derived.Shelf.Strings.Prefix
import Derived.Shelf.Strings.Split
import Derived.Shelf.Strings.SplitShaped
import Derived.Shelf.Unicode.Decode
import Derived.Shelf.Strings.Runes
import Derived.Shelf.Strings.RuneCount
import Derived.Shelf.Strings.IndexAny
import Derived.Shelf.Strings.AsciiSet
import Derived.Shelf.Strings.IndexAnyAll
import Derived.Shelf.Strings.Explode
import Derived.Shelf.Bits.Mul64
import Derived.Shelf.Unicode.DecodeSlow
import Derived.Shelf.Unicode.DecodeAny
import Derived.Shelf.Bytes.SlIndexSmall
import Derived.Shelf.Bytes.SlIndexAt
import Derived.Shelf.Bytes.SlSearch0
import Derived.Shelf.Bytes.SlSearch1
import Derived.Shelf.Bytes.SlSearch2
import Derived.Shelf.Bytes.SlIndexWhole
import Derived.Ground.SlbCloneProg
import Derived.Shelf.Bytes.SlClone
import Derived.Shelf.Bytes.SlEqualAll
import Derived.Shelf.Bytes.Small
import Derived.Shelf.Bytes.IndexByte
import Derived.Test.YtnkppakkeobegaaGreatDoorProg
namespace Go.Proofs
open Go.Shelf
def Tryz.lays169_ren : Go.Shelf.Ren := ⟨fun | 169 => 205 | n => n, fun | 70 => 236 | 9 => 9 | 0 => 0 | 72 => 238 | 37 => 26 | 127 => 232 | 3 => 3 | 5 => 5 | n => n, fun | n => n⟩
theorem Tryz.lays169 : Go.Proofs.Lays.n169 Tryz.prog Tryz.lays169_ren := {
 mixed := by kernel_rfl
 f169 := Tryz.func205.trans (congrArg some (by kernel_rfl))
 t0 := Tryz.underlying0
 a0 := Tryz.isAgg0
 z0 := Tryz.sizeOf0
 v0 := Tryz.zeroValue0
 t3 := Tryz.underlying3
 a3 := Tryz.isAgg3
 z3 := Tryz.sizeOf3
 v3 := Tryz.zeroValue3
 t9 := Tryz.underlying9
 a9 := Tryz.isAgg9
 z9 := Tryz.sizeOf9
 v9 := Tryz.zeroValue9
 t37 := Tryz.underlying26
 a37 := Tryz.isAgg26
 z37 := Tryz.sizeOf26
 v37 := Tryz.zeroValue26
 t70 := Tryz.underlying236
 a70 := Tryz.isAgg236
 z70 := Tryz.sizeOf236
 v70 := Tryz.zeroValue236
 t72 := Tryz.underlying238
 a72 := Tryz.isAgg238
 z72 := Tryz.sizeOf238
 v72 := Tryz.zeroValue238
 t127 := Tryz.underlying232
 a127 := Tryz.isAgg232
 z127 := Tryz.sizeOf232
 v127 := Tryz.zeroValue232 }
theorem Tryz.Builder_Extra_169 : Builder.Extra Tryz.prog Tryz.lays169_ren := {
 sizeBuilder := by kernel_rfl
 liesBuilder := by kernel_rfl
 t5 := Tryz.underlying5
 a5 := Tryz.isAgg5
 z5 := Tryz.sizeOf5
 v5 := Tryz.zeroValue5
 infoByte := by kernel_rfl
 cellsByte := by kernel_rfl
 sizeByte := by kernel_rfl
 neB5 := by decide }
open Go.RowKit in
theorem Tryz.Builder_String_any (B b : Nat) (l : List UInt8) (w : World) (h : Lib.IsBuilder 238 5 B b (Lib.byteCells l) w) (hBw : B ≤ w.heap.size) :
 Calls Tryz.prog 205 #[.pointer (some ⟨b, 0, none⟩)] w fun e w' => e = .returned (.string ⟨l.toArray⟩) ∧ Below B w w' := Any.Builder_String_any Tryz.lays169 Tryz.Builder_Extra_169 B b l w h hBw
def Tryz.lays137_ren : Go.Shelf.Ren := ⟨fun | 137 => 193 | 217 => 169 | 266 => 191 | n => n, fun | 9 => 9 | 5 => 5 | 3 => 3 | n => n, fun | n => n⟩
theorem Tryz.lays137 : Go.Proofs.Lays.n137 Tryz.prog Tryz.lays137_ren := {
 mixed := by kernel_rfl
 f137 := Tryz.func193.trans (congrArg some (by kernel_rfl))
 f217 := Tryz.func169.trans (congrArg some (by kernel_rfl))
 f266 := Tryz.func191.trans (congrArg some (by kernel_rfl))
 t3 := Tryz.underlying3
 a3 := Tryz.isAgg3
 z3 := Tryz.sizeOf3
 v3 := Tryz.zeroValue3
 t5 := Tryz.underlying5
 a5 := Tryz.isAgg5
 z5 := Tryz.sizeOf5
 v5 := Tryz.zeroValue5
 t9 := Tryz.underlying9
 a9 := Tryz.isAgg9
 z9 := Tryz.sizeOf9
 v9 := Tryz.zeroValue9 }
open Go.RowKit in
theorem Tryz.strings_IndexByte (s : ByteArray) (c : Int) (w : World) :
 Calls Tryz.prog 193 #[.string s, .int .u8 c] w fun e w' => e = .returned (.int .i64 (Lib.indexByte s.data.toList c.toNat.toUInt8)) ∧ w' = w := Any.strings_IndexByte Tryz.lays137 s c w
def Tryz.lays172_ren : Go.Shelf.Ren := ⟨fun | 172 => 113 | 244 => 136 | 245 => 137 | 247 => 160 | 279 => 161 | 280 => 162 | 281 => 163 | 282 => 164 | 287 => 187 | 316 => 188 | 171 => 81 | 205 => 189 | 321 => 200 | 322 => 201 | 243 => 111 | 246 => 134 | 283 => 153 | 284 => 154 | 285 => 155 | 286 => 156 | 129 => 180 | 317 => 179 | 318 => 181 | 319 => 182 | 320 => 183 | 337 => 197 | 338 => 198 | n => n, fun | 9 => 9 | 3 => 3 | 75 => 126 | 76 => 127 | 4 => 4 | 5 => 5 | 167 => 202 | 37 => 26 | 0 => 0 | 85 => 203 | 2 => 2 | 168 => 205 | 53 => 172 | 175 => 215 | 46 => 113 | 210 => 223 | 127 => 232 | 145 => 235 | 143 => 233 | 21 => 21 | 171 => 196 | 173 => 199 | 212 => 217 | 51 => 150 | 20 => 20 | 213 => 218 | 232 => 240 | 233 => 241 | 80 => 239 | n => n, fun | 15 => 3 | 16 => 4 | 17 => 2 | 18 => 5 | 19 => 6 | n => n⟩
def Tryz.laysM246_ren : Go.Shelf.Ren := ⟨fun | 246 => 134 | 283 => 153 | 284 => 154 | 285 => 155 | 286 => 156 | 129 => 180 | 317 => 179 | 318 => 181 | 319 => 182 | 320 => 183 | 337 => 197 | 338 => 198 | n => n, fun | 2 => 2 | 3 => 3 | 9 => 9 | 4 => 4 | 171 => 196 | 0 => 0 | 53 => 172 | 37 => 26 | 5 => 5 | 173 => 199 | 212 => 217 | 51 => 150 | 20 => 20 | 213 => 218 | 46 => 113 | 232 => 240 | 233 => 241 | n => n, fun | 17 => 2 | 18 => 5 | 19 => 6 | n => n⟩
def Tryz.laysM243_ren : Go.Shelf.Ren := ⟨fun | 243 => 111 | 246 => 134 | 283 => 153 | 284 => 154 | 285 => 155 | 286 => 156 | 129 => 180 | 317 => 179 | 318 => 181 | 319 => 182 | 320 => 183 | 337 => 197 | 338 => 198 | n => n, fun | 3 => 3 | 9 => 9 | 2 => 2 | 4 => 4 | 171 => 196 | 0 => 0 | 53 => 172 | 37 => 26 | 5 => 5 | 173 => 199 | 212 => 217 | 51 => 150 | 20 => 20 | 213 => 218 | 46 => 113 | 232 => 240 | 233 => 241 | n => n, fun | 17 => 2 | 18 => 5 | 19 => 6 | n => n⟩
def Tryz.laysM171_ren : Go.Shelf.Ren := ⟨fun | 171 => 81 | 243 => 111 | 246 => 134 | 283 => 153 | 284 => 154 | 285 => 155 | 286 => 156 | 129 => 180 | 317 => 179 | 318 => 181 | 319 => 182 | 320 => 183 | 337 => 197 | 338 => 198 | n => n, fun | 3 => 3 | 9 => 9 | 2 => 2 | 4 => 4 | 171 => 196 | 0 => 0 | 53 => 172 | 37 => 26 | 5 => 5 | 173 => 199 | 212 => 217 | 51 => 150 | 20 => 20 | 213 => 218 | 46 => 113 | 232 => 240 | 233 => 241 | n => n, fun | 17 => 2 | 18 => 5 | 19 => 6 | n => n⟩
theorem Tryz.laysM171 : Go.Proofs.LaysM.n171 Tryz.prog Tryz.laysM171_ren := {
 mixed := by kernel_rfl
 f129 := Tryz.func180.trans (congrArg some (by kernel_rfl))
 f171 := Tryz.func81.trans (congrArg some (by kernel_rfl))
 f243 := Tryz.func111.trans (congrArg some (by kernel_rfl))
 f246 := Tryz.func134.trans (congrArg some (by kernel_rfl))
 f283 := Tryz.func153.trans (congrArg some (by kernel_rfl))
 f284 := Tryz.func154.trans (congrArg some (by kernel_rfl))
 f285 := Tryz.func155.trans (congrArg some (by kernel_rfl))
 f286 := Tryz.func156.trans (congrArg some (by kernel_rfl))
 f317 := Tryz.func179.trans (congrArg some (by kernel_rfl))
 f318 := Tryz.func181.trans (congrArg some (by kernel_rfl))
 f319 := Tryz.func182.trans (congrArg some (by kernel_rfl))
 f320 := Tryz.func183.trans (congrArg some (by kernel_rfl))
 f337 := Tryz.func197.trans (congrArg some (by kernel_rfl))
 f338 := Tryz.func198.trans (congrArg some (by kernel_rfl))
 t0 := Tryz.underlying0
 a0 := Tryz.isAgg0
 z0 := Tryz.sizeOf0
 v0 := Tryz.zeroValue0
 t2 := Tryz.underlying2
 a2 := Tryz.isAgg2
 z2 := Tryz.sizeOf2
 v2 := Tryz.zeroValue2
 t3 := Tryz.underlying3
 a3 := Tryz.isAgg3
 z3 := Tryz.sizeOf3
 v3 := Tryz.zeroValue3
 t4 := Tryz.underlying4
 a4 := Tryz.isAgg4
 z4 := Tryz.sizeOf4
 v4 := Tryz.zeroValue4
 t5 := Tryz.underlying5
 a5 := Tryz.isAgg5
 z5 := Tryz.sizeOf5
 v5 := Tryz.zeroValue5
 t9 := Tryz.underlying9
 a9 := Tryz.isAgg9
 z9 := Tryz.sizeOf9
 v9 := Tryz.zeroValue9
 t20 := Tryz.underlying20
 a20 := Tryz.isAgg20
 z20 := Tryz.sizeOf20
 v20 := Tryz.zeroValue20
 t37 := Tryz.underlying26
 a37 := Tryz.isAgg26
 z37 := Tryz.sizeOf26
 v37 := Tryz.zeroValue26
 t46 := Tryz.underlying113
 a46 := Tryz.isAgg113
 z46 := Tryz.sizeOf113
 v46 := Tryz.zeroValue113
 t51 := Tryz.underlying150
 a51 := Tryz.isAgg150
 z51 := Tryz.sizeOf150
 v51 := Tryz.zeroValue150
 t53 := Tryz.underlying172
 a53 := Tryz.isAgg172
 z53 := Tryz.sizeOf172
 v53 := Tryz.zeroValue172
 t171 := Tryz.underlying196
 a171 := Tryz.isAgg196
 z171 := Tryz.sizeOf196
 v171 := Tryz.zeroValue196
 t173 := Tryz.underlying199
 a173 := Tryz.isAgg199
 z173 := Tryz.sizeOf199
 v173 := Tryz.zeroValue199
 t212 := Tryz.underlying217
 a212 := Tryz.isAgg217
 z212 := Tryz.sizeOf217
 v212 := Tryz.zeroValue217
 t213 := Tryz.underlying218
 a213 := Tryz.isAgg218
 z213 := Tryz.sizeOf218
 t232 := Tryz.underlying240
 a232 := Tryz.isAgg240
 z232 := Tryz.sizeOf240
 v232 := Tryz.zeroValue240
 t233 := Tryz.underlying241
 a233 := Tryz.isAgg241
 z233 := Tryz.sizeOf241
 v233 := Tryz.zeroValue241
 g17 := by kernel_rfl
 g18 := by kernel_rfl
 g19 := by kernel_rfl
 i0 := by kernel_rfl
 i2 := by kernel_rfl
 i3 := by kernel_rfl
 i4 := by kernel_rfl
 i5 := by kernel_rfl
 i9 := by kernel_rfl
 i20 := by kernel_rfl
 i37 := by kernel_rfl
 i46 := by kernel_rfl
 i51 := by kernel_rfl
 i53 := by kernel_rfl
 i171 := by kernel_rfl
 i173 := by kernel_rfl
 i212 := by kernel_rfl
 i232 := by kernel_rfl
 i233 := by kernel_rfl
 m17 := by kernel_rfl
 m18 := by kernel_rfl
 m19 := by kernel_rfl }
open Go.RowKit Go.Sort Go.Lib in
theorem Tryz.strconv_Itoa (n : Int) (h0 : -9223372036854775808 ≤ n) (h1 : n ≤ 9223372036854775807) (w : World) (htab : Lib.TabIs Tryz.prog w "internal/strconv.uint64pow10" .u64 Lib.pow10Tab) :
 Calls Tryz.prog 81 #[.int .i64 n] w fun e w' => e = .returned (.string ⟨(Lib.itoa n).toArray⟩) ∧ ∃ k os, w' = grow (w.drewN k) os := Any.strconv_Itoa Tryz.laysM171 n h0 h1 w htab
def Tryz.laysM324_ren : Go.Shelf.Ren := ⟨fun | 324 => 152 | n => n, fun | 20 => 20 | 4 => 4 | 75 => 126 | 0 => 0 | 80 => 239 | 9 => 9 | n => n, fun | 14 => 1 | n => n⟩
def Tryz.laysM179_ren : Go.Shelf.Ren := ⟨fun | 179 => 82 | 251 => 109 | 252 => 110 | 181 => 131 | 184 => 132 | 290 => 133 | 324 => 152 | n => n, fun | 130 => 160 | 5 => 5 | 75 => 126 | 0 => 0 | 93 => 124 | 91 => 122 | 3 => 3 | 131 => 102 | 4 => 4 | 37 => 26 | 20 => 20 | 80 => 239 | 9 => 9 | n => n, fun | 14 => 1 | n => n⟩
theorem Tryz.laysM179 : Go.Proofs.LaysM.n179 Tryz.prog Tryz.laysM179_ren := {
 mixed := by kernel_rfl
 f179 := Tryz.func82.trans (congrArg some (by kernel_rfl))
 f181 := Tryz.func131.trans (congrArg some (by kernel_rfl))
 f184 := Tryz.func132.trans (congrArg some (by kernel_rfl))
 f251 := Tryz.func109.trans (congrArg some (by kernel_rfl))
 f252 := Tryz.func110.trans (congrArg some (by kernel_rfl))
 f290 := Tryz.func133.trans (congrArg some (by kernel_rfl))
 f324 := Tryz.func152.trans (congrArg some (by kernel_rfl))
 t0 := Tryz.underlying0
 a0 := Tryz.isAgg0
 z0 := Tryz.sizeOf0
 v0 := Tryz.zeroValue0
 t3 := Tryz.underlying3
 a3 := Tryz.isAgg3
 z3 := Tryz.sizeOf3
 v3 := Tryz.zeroValue3
 t4 := Tryz.underlying4
 a4 := Tryz.isAgg4
 z4 := Tryz.sizeOf4
 v4 := Tryz.zeroValue4
 t5 := Tryz.underlying5
 a5 := Tryz.isAgg5
 z5 := Tryz.sizeOf5
 v5 := Tryz.zeroValue5
 t20 := Tryz.underlying20
 a20 := Tryz.isAgg20
 z20 := Tryz.sizeOf20
 v20 := Tryz.zeroValue20
 t37 := Tryz.underlying26
 a37 := Tryz.isAgg26
 z37 := Tryz.sizeOf26
 v37 := Tryz.zeroValue26
 t75 := Tryz.underlying126
 a75 := Tryz.isAgg126
 z75 := Tryz.sizeOf126
 v75 := Tryz.zeroValue126
 t91 := Tryz.underlying122
 a91 := Tryz.isAgg122
 z91 := Tryz.sizeOf122
 v91 := Tryz.zeroValue122
 t93 := Tryz.underlying124
 a93 := Tryz.isAgg124
 z93 := Tryz.sizeOf124
 v93 := Tryz.zeroValue124
 t130 := Tryz.underlying160
 a130 := Tryz.isAgg160
 z130 := Tryz.sizeOf160
 v130 := Tryz.zeroValue160
 t131 := Tryz.underlying102
 a131 := Tryz.isAgg102
 z131 := Tryz.sizeOf102
 v131 := Tryz.zeroValue102
 g14 := by kernel_rfl
 t9 := Tryz.underlying9
 a9 := Tryz.isAgg9
 z9 := Tryz.sizeOf9
 v9 := Tryz.zeroValue9
 t80 := Tryz.underlying239
 a80 := Tryz.isAgg239
 z80 := Tryz.sizeOf239
 v80 := Tryz.zeroValue239
 i0 := by kernel_rfl
 i3 := by kernel_rfl
 i4 := by kernel_rfl
 i5 := by kernel_rfl
 i9 := by kernel_rfl
 i20 := by kernel_rfl
 i37 := by kernel_rfl
 i75 := by kernel_rfl
 i80 := by kernel_rfl
 i91 := by kernel_rfl
 i93 := by kernel_rfl
 i130 := by kernel_rfl
 i131 := by kernel_rfl
 m14 := by kernel_rfl }
open Go.RowKit in
theorem Tryz.Buffer_WriteByte (B b : Nat) (bs : List Value) (c : Int) (w : World) (h : Lib.IsBuffer 124 5 B b bs w) (hBw : B ≤ w.heap.size) (h1 : ∀ v ∈ bs, v.oneCell' = true) (hlim : bs.length + 1 ≤ 140737488355328) :
 Calls Tryz.prog 82 #[.pointer (some ⟨b, 0, none⟩), .int .u8 c] w fun e w' => e = .returned .nilIface ∧ Lib.IsBuffer 124 5 B b (bs ++ [.int .u8 c]) w' ∧ Below B w w' := Any.Buffer_WriteByte Tryz.laysM179 B b bs c w h hBw h1 hlim
def Tryz.laysM178_ren : Go.Shelf.Ren := ⟨fun | 178 => 80 | 251 => 109 | 252 => 110 | 181 => 131 | 184 => 132 | 290 => 133 | 324 => 152 | n => n, fun | 130 => 160 | 9 => 9 | 3 => 3 | 75 => 126 | 0 => 0 | 93 => 124 | 91 => 122 | 131 => 102 | 4 => 4 | 37 => 26 | 20 => 20 | 80 => 239 | 5 => 5 | n => n, fun | 14 => 1 | n => n⟩
theorem Tryz.laysM178 : Go.Proofs.LaysM.n178 Tryz.prog Tryz.laysM178_ren := {
 mixed := by kernel_rfl
 f178 := Tryz.func80.trans (congrArg some (by kernel_rfl))
 f181 := Tryz.func131.trans (congrArg some (by kernel_rfl))
 f184 := Tryz.func132.trans (congrArg some (by kernel_rfl))
 f251 := Tryz.func109.trans (congrArg some (by kernel_rfl))
 f252 := Tryz.func110.trans (congrArg some (by kernel_rfl))
 f290 := Tryz.func133.trans (congrArg some (by kernel_rfl))
 f324 := Tryz.func152.trans (congrArg some (by kernel_rfl))
 t0 := Tryz.underlying0
 a0 := Tryz.isAgg0
 z0 := Tryz.sizeOf0
 v0 := Tryz.zeroValue0
 t3 := Tryz.underlying3
 a3 := Tryz.isAgg3
 z3 := Tryz.sizeOf3
 v3 := Tryz.zeroValue3
 t4 := Tryz.underlying4
 a4 := Tryz.isAgg4
 z4 := Tryz.sizeOf4
 v4 := Tryz.zeroValue4
 t9 := Tryz.underlying9
 a9 := Tryz.isAgg9
 z9 := Tryz.sizeOf9
 v9 := Tryz.zeroValue9
 t20 := Tryz.underlying20
 a20 := Tryz.isAgg20
 z20 := Tryz.sizeOf20
 v20 := Tryz.zeroValue20
 t37 := Tryz.underlying26
 a37 := Tryz.isAgg26
 z37 := Tryz.sizeOf26
 v37 := Tryz.zeroValue26
 t75 := Tryz.underlying126
 a75 := Tryz.isAgg126
 z75 := Tryz.sizeOf126
 v75 := Tryz.zeroValue126
 t91 := Tryz.underlying122
 a91 := Tryz.isAgg122
 z91 := Tryz.sizeOf122
 v91 := Tryz.zeroValue122
 t93 := Tryz.underlying124
 a93 := Tryz.isAgg124
 z93 := Tryz.sizeOf124
 v93 := Tryz.zeroValue124
 t130 := Tryz.underlying160
 a130 := Tryz.isAgg160
 z130 := Tryz.sizeOf160
 v130 := Tryz.zeroValue160
 t131 := Tryz.underlying102
 a131 := Tryz.isAgg102
 z131 := Tryz.sizeOf102
 v131 := Tryz.zeroValue102
 g14 := by kernel_rfl
 t5 := Tryz.underlying5
 a5 := Tryz.isAgg5
 z5 := Tryz.sizeOf5
 v5 := Tryz.zeroValue5
 t80 := Tryz.underlying239
 a80 := Tryz.isAgg239
 z80 := Tryz.sizeOf239
 v80 := Tryz.zeroValue239
 i0 := by kernel_rfl
 i3 := by kernel_rfl
 i4 := by kernel_rfl
 i5 := by kernel_rfl
 i9 := by kernel_rfl
 i20 := by kernel_rfl
 i37 := by kernel_rfl
 i75 := by kernel_rfl
 i80 := by kernel_rfl
 i91 := by kernel_rfl
 i93 := by kernel_rfl
 i130 := by kernel_rfl
 i131 := by kernel_rfl
 m14 := by kernel_rfl }
open Go.RowKit in
theorem Tryz.Buffer_WriteString (B b : Nat) (bs : List Value) (s : ByteArray) (w : World) (h : Lib.IsBuffer 124 5 B b bs w) (hBw : B ≤ w.heap.size) (h1 : ∀ v ∈ bs, v.oneCell' = true) (hlim : bs.length + s.size ≤ 140737488355328) :
 Calls Tryz.prog 80 #[.pointer (some ⟨b, 0, none⟩), .string s] w fun e w' => e = .returned (.tuple #[.int .i64 s.size, .nilIface]) ∧ Lib.IsBuffer 124 5 B b (bs ++ Lib.byteCells s.data.toList) w' ∧ Below B w w' := Any.Buffer_WriteString Tryz.laysM178 B b bs s w h hBw h1 hlim
def Tryz.laysM183_ren : Go.Shelf.Ren := ⟨fun | 183 => 83 | n => n, fun | 130 => 160 | 37 => 26 | 0 => 0 | 93 => 124 | 3 => 3 | 5 => 5 | 91 => 122 | n => n, fun | n => n⟩
theorem Tryz.laysM183 : Go.Proofs.LaysM.n183 Tryz.prog Tryz.laysM183_ren := {
 mixed := by kernel_rfl
 f183 := Tryz.func83.trans (congrArg some (by kernel_rfl))
 t0 := Tryz.underlying0
 a0 := Tryz.isAgg0
 z0 := Tryz.sizeOf0
 v0 := Tryz.zeroValue0
 t3 := Tryz.underlying3
 a3 := Tryz.isAgg3
 z3 := Tryz.sizeOf3
 v3 := Tryz.zeroValue3
 t37 := Tryz.underlying26
 a37 := Tryz.isAgg26
 z37 := Tryz.sizeOf26
 v37 := Tryz.zeroValue26
 t93 := Tryz.underlying124
 a93 := Tryz.isAgg124
 z93 := Tryz.sizeOf124
 v93 := Tryz.zeroValue124
 t130 := Tryz.underlying160
 a130 := Tryz.isAgg160
 z130 := Tryz.sizeOf160
 v130 := Tryz.zeroValue160
 t5 := Tryz.underlying5
 a5 := Tryz.isAgg5
 z5 := Tryz.sizeOf5
 v5 := Tryz.zeroValue5
 t91 := Tryz.underlying122
 a91 := Tryz.isAgg122
 z91 := Tryz.sizeOf122
 v91 := Tryz.zeroValue122
 i0 := by kernel_rfl
 i3 := by kernel_rfl
 i5 := by kernel_rfl
 i37 := by kernel_rfl
 i91 := by kernel_rfl
 i93 := by kernel_rfl
 i130 := by kernel_rfl }
open Go.RowKit in
theorem Tryz.Buffer_Bytes (B b : Nat) (bs : List Value) (w : World) (h : Lib.IsBuffer 124 5 B b bs w) :
 Calls Tryz.prog 83 #[.pointer (some ⟨b, 0, none⟩)] w fun e w' => ∃ v, e = .returned v ∧ w'.ownsRow B 5 1 v bs.length bs ∧ ∃ n, w' = w.drewN n := Any.Buffer_Bytes Tryz.laysM183 B b bs w h
def Tryz.laysC172_ren : Go.Shelf.Ren := ⟨fun | 172 => 113 | 244 => 136 | 245 => 137 | 247 => 160 | 279 => 161 | 280 => 162 | 281 => 163 | 282 => 164 | 287 => 187 | 316 => 188 | 171 => 81 | 205 => 189 | 321 => 200 | 322 => 201 | 243 => 111 | 246 => 134 | 283 => 153 | 284 => 154 | 285 => 155 | 286 => 156 | 129 => 180 | 317 => 179 | 318 => 181 | 319 => 182 | 320 => 183 | 337 => 197 | 338 => 198 | n => n, fun | 9 => 9 | 3 => 3 | 75 => 126 | 76 => 127 | 4 => 4 | 5 => 5 | 167 => 202 | 37 => 26 | 0 => 0 | 85 => 203 | 2 => 2 | 168 => 205 | 53 => 172 | 175 => 215 | 46 => 113 | 210 => 223 | 127 => 232 | 145 => 235 | 143 => 233 | 21 => 21 | 171 => 196 | 173 => 199 | 212 => 217 | 51 => 150 | 20 => 20 | 213 => 218 | 232 => 240 | 233 => 241 | 80 => 239 | n => n, fun | 15 => 3 | 16 => 4 | 17 => 2 | 18 => 5 | 19 => 6 | n => n⟩
theorem Tryz.laysC172 : Go.Proofs.LaysC.n172 Tryz.prog Tryz.laysC172_ren := {
 mixed := by kernel_rfl
 f129 := Tryz.func180.trans (congrArg some (by kernel_rfl))
 f171 := Tryz.func81.trans (congrArg some (by kernel_rfl))
 f172 := Tryz.func113.trans (congrArg some (by kernel_rfl))
 f205 := Tryz.func189.trans (congrArg some (by kernel_rfl))
 f243 := Tryz.func111.trans (congrArg some (by kernel_rfl))
 f244 := Tryz.func136.trans (congrArg some (by kernel_rfl))
 f245 := Tryz.func137.trans (congrArg some (by kernel_rfl))
 f246 := Tryz.func134.trans (congrArg some (by kernel_rfl))
 f247 := Tryz.func160.trans (congrArg some (by kernel_rfl))
 f279 := Tryz.func161.trans (congrArg some (by kernel_rfl))
 f280 := Tryz.func162.trans (congrArg some (by kernel_rfl))
 f281 := Tryz.func163.trans (congrArg some (by kernel_rfl))
 f282 := Tryz.func164.trans (congrArg some (by kernel_rfl))
 f283 := Tryz.func153.trans (congrArg some (by kernel_rfl))
 f284 := Tryz.func154.trans (congrArg some (by kernel_rfl))
 f285 := Tryz.func155.trans (congrArg some (by kernel_rfl))
 f286 := Tryz.func156.trans (congrArg some (by kernel_rfl))
 f287 := Tryz.func187.trans (congrArg some (by kernel_rfl))
 f316 := Tryz.func188.trans (congrArg some (by kernel_rfl))
 f317 := Tryz.func179.trans (congrArg some (by kernel_rfl))
 f318 := Tryz.func181.trans (congrArg some (by kernel_rfl))
 f319 := Tryz.func182.trans (congrArg some (by kernel_rfl))
 f320 := Tryz.func183.trans (congrArg some (by kernel_rfl))
 f321 := Tryz.func200.trans (congrArg some (by kernel_rfl))
 f322 := Tryz.func201.trans (congrArg some (by kernel_rfl))
 f337 := Tryz.func197.trans (congrArg some (by kernel_rfl))
 f338 := Tryz.func198.trans (congrArg some (by kernel_rfl))
 t0 := Tryz.underlying0
 a0 := Tryz.isAgg0
 z0 := Tryz.sizeOf0
 v0 := Tryz.zeroValue0
 t2 := Tryz.underlying2
 a2 := Tryz.isAgg2
 z2 := Tryz.sizeOf2
 v2 := Tryz.zeroValue2
 t3 := Tryz.underlying3
 a3 := Tryz.isAgg3
 z3 := Tryz.sizeOf3
 v3 := Tryz.zeroValue3
 t4 := Tryz.underlying4
 a4 := Tryz.isAgg4
 z4 := Tryz.sizeOf4
 v4 := Tryz.zeroValue4
 t5 := Tryz.underlying5
 a5 := Tryz.isAgg5
 z5 := Tryz.sizeOf5
 v5 := Tryz.zeroValue5
 t9 := Tryz.underlying9
 a9 := Tryz.isAgg9
 z9 := Tryz.sizeOf9
 v9 := Tryz.zeroValue9
 t20 := Tryz.underlying20
 a20 := Tryz.isAgg20
 z20 := Tryz.sizeOf20
 v20 := Tryz.zeroValue20
 t21 := Tryz.underlying21
 a21 := Tryz.isAgg21
 z21 := Tryz.sizeOf21
 v21 := Tryz.zeroValue21
 t37 := Tryz.underlying26
 a37 := Tryz.isAgg26
 z37 := Tryz.sizeOf26
 v37 := Tryz.zeroValue26
 t46 := Tryz.underlying113
 a46 := Tryz.isAgg113
 z46 := Tryz.sizeOf113
 v46 := Tryz.zeroValue113
 t51 := Tryz.underlying150
 a51 := Tryz.isAgg150
 z51 := Tryz.sizeOf150
 v51 := Tryz.zeroValue150
 t53 := Tryz.underlying172
 a53 := Tryz.isAgg172
 z53 := Tryz.sizeOf172
 v53 := Tryz.zeroValue172
 t75 := Tryz.underlying126
 a75 := Tryz.isAgg126
 z75 := Tryz.sizeOf126
 v75 := Tryz.zeroValue126
 t76 := Tryz.underlying127
 a76 := Tryz.isAgg127
 z76 := Tryz.sizeOf127
 v76 := Tryz.zeroValue127
 t85 := Tryz.underlying203
 a85 := Tryz.isAgg203
 z85 := Tryz.sizeOf203
 v85 := Tryz.zeroValue203
 t127 := Tryz.underlying232
 a127 := Tryz.isAgg232
 z127 := Tryz.sizeOf232
 v127 := Tryz.zeroValue232
 t143 := Tryz.underlying233
 a143 := Tryz.isAgg233
 z143 := Tryz.sizeOf233
 v143 := Tryz.zeroValue233
 t145 := Tryz.underlying235
 a145 := Tryz.isAgg235
 z145 := Tryz.sizeOf235
 v145 := Tryz.zeroValue235
 t167 := Tryz.underlying202
 a167 := Tryz.isAgg202
 z167 := Tryz.sizeOf202
 v167 := Tryz.zeroValue202
 t168 := Tryz.underlying205
 a168 := Tryz.isAgg205
 z168 := Tryz.sizeOf205
 v168 := Tryz.zeroValue205
 t171 := Tryz.underlying196
 a171 := Tryz.isAgg196
 z171 := Tryz.sizeOf196
 v171 := Tryz.zeroValue196
 t173 := Tryz.underlying199
 a173 := Tryz.isAgg199
 z173 := Tryz.sizeOf199
 v173 := Tryz.zeroValue199
 t175 := Tryz.underlying215
 a175 := Tryz.isAgg215
 z175 := Tryz.sizeOf215
 v175 := Tryz.zeroValue215
 t210 := Tryz.underlying223
 a210 := Tryz.isAgg223
 z210 := Tryz.sizeOf223
 v210 := Tryz.zeroValue223
 t212 := Tryz.underlying217
 a212 := Tryz.isAgg217
 z212 := Tryz.sizeOf217
 v212 := Tryz.zeroValue217
 t213 := Tryz.underlying218
 a213 := Tryz.isAgg218
 z213 := Tryz.sizeOf218
 t232 := Tryz.underlying240
 a232 := Tryz.isAgg240
 z232 := Tryz.sizeOf240
 v232 := Tryz.zeroValue240
 t233 := Tryz.underlying241
 a233 := Tryz.isAgg241
 z233 := Tryz.sizeOf241
 v233 := Tryz.zeroValue241
 g15 := by kernel_rfl
 g16 := by kernel_rfl
 g17 := by kernel_rfl
 g18 := by kernel_rfl
 g19 := by kernel_rfl
 t80 := Tryz.underlying239
 a80 := Tryz.isAgg239
 z80 := Tryz.sizeOf239
 v80 := Tryz.zeroValue239
 i0 := by kernel_rfl
 i2 := by kernel_rfl
 i3 := by kernel_rfl
 i4 := by kernel_rfl
 i5 := by kernel_rfl
 i9 := by kernel_rfl
 i20 := by kernel_rfl
 i21 := by kernel_rfl
 i37 := by kernel_rfl
 i46 := by kernel_rfl
 i51 := by kernel_rfl
 i53 := by kernel_rfl
 i75 := by kernel_rfl
 i76 := by kernel_rfl
 i80 := by kernel_rfl
 i85 := by kernel_rfl
 i127 := by kernel_rfl
 i143 := by kernel_rfl
 i145 := by kernel_rfl
 i167 := by kernel_rfl
 i168 := by kernel_rfl
 i171 := by kernel_rfl
 i173 := by kernel_rfl
 i175 := by kernel_rfl
 i210 := by kernel_rfl
 i212 := by kernel_rfl
 i232 := by kernel_rfl
 i233 := by kernel_rfl
 m15 := by kernel_rfl
 m16 := by kernel_rfl
 m17 := by kernel_rfl
 m18 := by kernel_rfl
 m19 := by kernel_rfl
 c0 := by kernel_rfl
 c2 := by kernel_rfl
 c3 := by kernel_rfl
 c4 := by kernel_rfl
 c5 := by kernel_rfl
 c9 := by kernel_rfl
 c20 := by kernel_rfl
 c21 := by kernel_rfl
 c37 := by kernel_rfl
 c46 := by kernel_rfl
 c51 := by kernel_rfl
 c53 := by kernel_rfl
 c75 := by kernel_rfl
 c76 := by kernel_rfl
 c80 := by kernel_rfl
 c85 := by kernel_rfl
 c127 := by kernel_rfl
 c143 := by kernel_rfl
 c145 := by kernel_rfl
 c167 := by kernel_rfl
 c168 := by kernel_rfl
 c171 := by kernel_rfl
 c173 := by kernel_rfl
 c175 := by kernel_rfl
 c210 := by kernel_rfl
 c212 := by kernel_rfl
 c213 := by kernel_rfl
 c232 := by kernel_rfl
 c233 := by kernel_rfl }
open Go.RowKit in
theorem Tryz.strconv_Atoi_ok (s : ByteArray) (hmax : s.size ≤ 9223372036854775806) (v : Int) (h : Lib.atoiAll s.data.toList = .ok v) (w : World) :
 Calls Tryz.prog 113 #[.string s] w fun e w' => e = .returned (.tuple #[.int .i64 v, .nilIface]) ∧ (w' = w ∨ ∃ t, w' = Lib.bytesWorld w 5 t) := Any.strconv_Atoi_ok Tryz.laysC172 s hmax v h w
open Go.RowKit in
open Go.RowKit in
theorem Tryz.strconv_Atoi_range (s : ByteArray) (hlim : s.size ≤ 281474976710656) (h : Lib.atoiAll s.data.toList = .range) (ev : Value) (w : World) (hv : w.cell? ⟨4, 0, none⟩ = some ev) (hev : ev = .nilIface ∨ ∃ te pe, ev = .iface te pe) :
 Calls Tryz.prog 113 #[.string s] w fun e w' => ∃ N, e = .returned (.tuple #[.int .i64 (Lib.atoiSat s.data.toList), .iface 205 (.pointer (some ⟨N, 0, none⟩))]) ∧ w.heap.size ≤ N ∧ w'.heap[N]? = some (.cells #[.string ⟨#[65, 116, 111, 105]⟩, .string s, ev] 223 (0, 0)) ∧ Below w.heap.size w w' := Any.strconv_Atoi_range Tryz.laysC172 s hlim h ev w hv hev
def Tryz.laysPu14_ren : Go.Shelf.Ren := ⟨fun | 14 => 178 | 16 => 187 | 17 => 137 | 19 => 200 | 20 => 201 | 21 => 161 | 22 => 162 | 23 => 163 | 24 => 164 | 25 => 188 | 27 => 81 | 26 => 189 | 28 => 111 | 29 => 134 | 30 => 153 | 31 => 154 | 32 => 155 | 33 => 156 | 35 => 180 | 34 => 179 | 36 => 181 | 37 => 182 | 38 => 183 | 39 => 197 | 40 => 198 | n => n, fun | 9 => 9 | 3 => 3 | 22 => 172 | 24 => 126 | 25 => 215 | 4 => 4 | 34 => 202 | 5 => 5 | 36 => 113 | 37 => 26 | 0 => 0 | 39 => 205 | 21 => 21 | 44 => 223 | 47 => 232 | 50 => 235 | 48 => 233 | 2 => 2 | 52 => 196 | 55 => 199 | 59 => 217 | 60 => 150 | 20 => 20 | 61 => 218 | 65 => 240 | 66 => 241 | 67 => 239 | n => n, fun | 0 => 3 | 1 => 4 | 2 => 2 | 3 => 5 | 4 => 6 | n => n⟩
theorem Tryz.laysPu14 : Go.Proofs.LaysPu.n14 Tryz.prog Tryz.laysPu14_ren := {
 mixed := by kernel_rfl
 f14 := Tryz.func178.trans (congrArg some (by kernel_rfl))
 f16 := Tryz.func187.trans (congrArg some (by kernel_rfl))
 f17 := Tryz.func137.trans (congrArg some (by kernel_rfl))
 f19 := Tryz.func200.trans (congrArg some (by kernel_rfl))
 f20 := Tryz.func201.trans (congrArg some (by kernel_rfl))
 f21 := Tryz.func161.trans (congrArg some (by kernel_rfl))
 f22 := Tryz.func162.trans (congrArg some (by kernel_rfl))
 f23 := Tryz.func163.trans (congrArg some (by kernel_rfl))
 f24 := Tryz.func164.trans (congrArg some (by kernel_rfl))
 f25 := Tryz.func188.trans (congrArg some (by kernel_rfl))
 f26 := Tryz.func189.trans (congrArg some (by kernel_rfl))
 f27 := Tryz.func81.trans (congrArg some (by kernel_rfl))
 f28 := Tryz.func111.trans (congrArg some (by kernel_rfl))
 f29 := Tryz.func134.trans (congrArg some (by kernel_rfl))
 f30 := Tryz.func153.trans (congrArg some (by kernel_rfl))
 f31 := Tryz.func154.trans (congrArg some (by kernel_rfl))
 f32 := Tryz.func155.trans (congrArg some (by kernel_rfl))
 f33 := Tryz.func156.trans (congrArg some (by kernel_rfl))
 f34 := Tryz.func179.trans (congrArg some (by kernel_rfl))
 f35 := Tryz.func180.trans (congrArg some (by kernel_rfl))
 f36 := Tryz.func181.trans (congrArg some (by kernel_rfl))
 f37 := Tryz.func182.trans (congrArg some (by kernel_rfl))
 f38 := Tryz.func183.trans (congrArg some (by kernel_rfl))
 f39 := Tryz.func197.trans (congrArg some (by kernel_rfl))
 f40 := Tryz.func198.trans (congrArg some (by kernel_rfl))
 t0 := Tryz.underlying0
 a0 := Tryz.isAgg0
 z0 := Tryz.sizeOf0
 v0 := Tryz.zeroValue0
 i0 := by kernel_rfl
 t2 := Tryz.underlying2
 a2 := Tryz.isAgg2
 z2 := Tryz.sizeOf2
 v2 := Tryz.zeroValue2
 i2 := by kernel_rfl
 t3 := Tryz.underlying3
 a3 := Tryz.isAgg3
 z3 := Tryz.sizeOf3
 v3 := Tryz.zeroValue3
 i3 := by kernel_rfl
 t4 := Tryz.underlying4
 a4 := Tryz.isAgg4
 z4 := Tryz.sizeOf4
 v4 := Tryz.zeroValue4
 i4 := by kernel_rfl
 t5 := Tryz.underlying5
 a5 := Tryz.isAgg5
 z5 := Tryz.sizeOf5
 v5 := Tryz.zeroValue5
 i5 := by kernel_rfl
 t9 := Tryz.underlying9
 a9 := Tryz.isAgg9
 z9 := Tryz.sizeOf9
 v9 := Tryz.zeroValue9
 i9 := by kernel_rfl
 t20 := Tryz.underlying20
 a20 := Tryz.isAgg20
 z20 := Tryz.sizeOf20
 v20 := Tryz.zeroValue20
 i20 := by kernel_rfl
 t21 := Tryz.underlying21
 a21 := Tryz.isAgg21
 z21 := Tryz.sizeOf21
 v21 := Tryz.zeroValue21
 i21 := by kernel_rfl
 t22 := Tryz.underlying172
 a22 := Tryz.isAgg172
 z22 := Tryz.sizeOf172
 v22 := Tryz.zeroValue172
 i22 := by kernel_rfl
 t24 := Tryz.underlying126
 a24 := Tryz.isAgg126
 z24 := Tryz.sizeOf126
 v24 := Tryz.zeroValue126
 i24 := by kernel_rfl
 t25 := Tryz.underlying215
 a25 := Tryz.isAgg215
 z25 := Tryz.sizeOf215
 v25 := Tryz.zeroValue215
 i25 := by kernel_rfl
 t34 := Tryz.underlying202
 a34 := Tryz.isAgg202
 z34 := Tryz.sizeOf202
 v34 := Tryz.zeroValue202
 i34 := by kernel_rfl
 c34 := by kernel_rfl
 t36 := Tryz.underlying113
 a36 := Tryz.isAgg113
 z36 := Tryz.sizeOf113
 v36 := Tryz.zeroValue113
 i36 := by kernel_rfl
 t37 := Tryz.underlying26
 a37 := Tryz.isAgg26
 z37 := Tryz.sizeOf26
 v37 := Tryz.zeroValue26
 i37 := by kernel_rfl
 t39 := Tryz.underlying205
 a39 := Tryz.isAgg205
 z39 := Tryz.sizeOf205
 v39 := Tryz.zeroValue205
 i39 := by kernel_rfl
 t44 := Tryz.underlying223
 a44 := Tryz.isAgg223
 z44 := Tryz.sizeOf223
 v44 := Tryz.zeroValue223
 i44 := by kernel_rfl
 t47 := Tryz.underlying232
 a47 := Tryz.isAgg232
 z47 := Tryz.sizeOf232
 v47 := Tryz.zeroValue232
 i47 := by kernel_rfl
 t48 := Tryz.underlying233
 a48 := Tryz.isAgg233
 z48 := Tryz.sizeOf233
 v48 := Tryz.zeroValue233
 i48 := by kernel_rfl
 t50 := Tryz.underlying235
 a50 := Tryz.isAgg235
 z50 := Tryz.sizeOf235
 v50 := Tryz.zeroValue235
 i50 := by kernel_rfl
 t52 := Tryz.underlying196
 a52 := Tryz.isAgg196
 z52 := Tryz.sizeOf196
 v52 := Tryz.zeroValue196
 i52 := by kernel_rfl
 t55 := Tryz.underlying199
 a55 := Tryz.isAgg199
 z55 := Tryz.sizeOf199
 v55 := Tryz.zeroValue199
 i55 := by kernel_rfl
 t59 := Tryz.underlying217
 a59 := Tryz.isAgg217
 z59 := Tryz.sizeOf217
 v59 := Tryz.zeroValue217
 i59 := by kernel_rfl
 t60 := Tryz.underlying150
 a60 := Tryz.isAgg150
 z60 := Tryz.sizeOf150
 v60 := Tryz.zeroValue150
 i60 := by kernel_rfl
 t61 := Tryz.underlying218
 a61 := Tryz.isAgg218
 z61 := Tryz.sizeOf218
 t65 := Tryz.underlying240
 a65 := Tryz.isAgg240
 z65 := Tryz.sizeOf240
 v65 := Tryz.zeroValue240
 i65 := by kernel_rfl
 t66 := Tryz.underlying241
 a66 := Tryz.isAgg241
 z66 := Tryz.sizeOf241
 v66 := Tryz.zeroValue241
 i66 := by kernel_rfl
 t67 := Tryz.underlying239
 a67 := Tryz.isAgg239
 z67 := Tryz.sizeOf239
 v67 := Tryz.zeroValue239
 i67 := by kernel_rfl
 g0 := by kernel_rfl
 m0 := by kernel_rfl
 g1 := by kernel_rfl
 m1 := by kernel_rfl
 g2 := by kernel_rfl
 m2 := by kernel_rfl
 g3 := by kernel_rfl
 m3 := by kernel_rfl
 g4 := by kernel_rfl
 m4 := by kernel_rfl }
open Go.RowKit in
theorem Tryz.strconv_ParseUint_10_at64_ok (s : ByteArray) (hmax : s.size ≤ 9223372036854775806) (u : Nat) (h : Lib.parseUintB 64 s.data.toList = .ok u) (w : World) :
 Calls Tryz.prog 178 #[.string s, .int .i64 10, .int .i64 64] w fun e w' => e = .returned (.tuple #[.int .u64 u, .nilIface]) ∧ (w' = w ∨ w' = Lib.bytesWorld w 5 s) := Any.strconv_ParseUint_10_at64_ok Tryz.laysPu14 s hmax u h w
open Go.RowKit in
open Go.RowKit in
theorem Tryz.strconv_ParseUint_10_at64_range (s : ByteArray) (hlim : s.size ≤ 281474976710656) (h : Lib.parseUintB 64 s.data.toList = .range) (ev : Value) (w : World) (hv : w.cell? ⟨4, 0, none⟩ = some ev) (hev : ev = .nilIface ∨ ∃ te pe, ev = .iface te pe) :
 Calls Tryz.prog 178 #[.string s, .int .i64 10, .int .i64 64] w fun e w' => ∃ N, e = .returned (.tuple #[.int .u64 18446744073709551615, .iface 205 (.pointer (some ⟨N, 0, none⟩))]) ∧ w.heap.size ≤ N ∧ w'.heap[N]? = some (.cells #[.string ⟨#[80, 97, 114, 115, 101, 85, 105, 110, 116]⟩, .string s, ev] 223 (0, 0)) ∧ Below w.heap.size w w' := Any.strconv_ParseUint_10_at64_range Tryz.laysPu14 s hlim h ev w hv hev
def Tryz.lays219_ren : Go.Shelf.Ren := ⟨fun | 219 => 142 | 217 => 169 | 225 => 170 | 224 => 72 | 267 => 171 | 266 => 191 | 314 => 192 | n => n, fun | 9 => 9 | 3 => 3 | 4 => 4 | 5 => 5 | 46 => 113 | 146 => 151 | 51 => 150 | n => n, fun | 1 => 0 | n => n⟩
def Tryz.lays145_ren : Go.Shelf.Ren := ⟨fun | 145 => 102 | 220 => 125 | 219 => 142 | 217 => 169 | 225 => 170 | 224 => 72 | 267 => 171 | 266 => 191 | 314 => 192 | n => n, fun | 9 => 9 | 4 => 4 | 59 => 153 | 3 => 3 | 5 => 5 | 46 => 113 | 146 => 151 | 51 => 150 | n => n, fun | 1 => 0 | n => n⟩
theorem Tryz.lays145 : Go.Proofs.Lays.n145 Tryz.prog Tryz.lays145_ren := {
 mixed := by kernel_rfl
 f145 := Tryz.func102.trans (congrArg some (by kernel_rfl))
 f217 := Tryz.func169.trans (congrArg some (by kernel_rfl))
 f219 := Tryz.func142.trans (congrArg some (by kernel_rfl))
 f220 := Tryz.func125.trans (congrArg some (by kernel_rfl))
 f224 := Tryz.func72.trans (congrArg some (by kernel_rfl))
 f225 := Tryz.func170.trans (congrArg some (by kernel_rfl))
 f266 := Tryz.func191.trans (congrArg some (by kernel_rfl))
 f267 := Tryz.func171.trans (congrArg some (by kernel_rfl))
 f314 := Tryz.func192.trans (congrArg some (by kernel_rfl))
 t3 := Tryz.underlying3
 a3 := Tryz.isAgg3
 z3 := Tryz.sizeOf3
 v3 := Tryz.zeroValue3
 t4 := Tryz.underlying4
 a4 := Tryz.isAgg4
 z4 := Tryz.sizeOf4
 v4 := Tryz.zeroValue4
 t5 := Tryz.underlying5
 a5 := Tryz.isAgg5
 z5 := Tryz.sizeOf5
 v5 := Tryz.zeroValue5
 t9 := Tryz.underlying9
 a9 := Tryz.isAgg9
 z9 := Tryz.sizeOf9
 v9 := Tryz.zeroValue9
 t46 := Tryz.underlying113
 a46 := Tryz.isAgg113
 z46 := Tryz.sizeOf113
 v46 := Tryz.zeroValue113
 t51 := Tryz.underlying150
 a51 := Tryz.isAgg150
 z51 := Tryz.sizeOf150
 v51 := Tryz.zeroValue150
 t59 := Tryz.underlying153
 a59 := Tryz.isAgg153
 z59 := Tryz.sizeOf153
 v59 := Tryz.zeroValue153
 t146 := Tryz.underlying151
 a146 := Tryz.isAgg151
 z146 := Tryz.sizeOf151
 v146 := Tryz.zeroValue151
 g1 := by kernel_rfl }
open Go.RowKit Go.Lib in
theorem Tryz.strings_Cut (s sep : ByteArray) (m : Int) (w : World) (hs : s.size < 4294967281) (hm : w.cell? ⟨0, 0, none⟩ = some (.int .i64 m)) :
 Calls Tryz.prog 102 #[.string s, .string sep] w fun e w' => e = .returned (.tuple #[.string ⟨(Lib.cut s.data.toList sep.data.toList).1.toArray⟩, .string ⟨(Lib.cut s.data.toList sep.data.toList).2.1.toArray⟩, .bool (Lib.cut s.data.toList sep.data.toList).2.2]) ∧ ∃ n, w' = w.drewN n := Any.strings_Cut Tryz.lays145 s sep m w hs hm
def Tryz.lays206_ren : Go.Shelf.Ren := ⟨fun | 206 => 176 | n => n, fun | 9 => 9 | 4 => 4 | 3 => 3 | n => n, fun | n => n⟩
def Tryz.lays99_ren : Go.Shelf.Ren := ⟨fun | 99 => 144 | 206 => 176 | n => n, fun | 9 => 9 | 4 => 4 | 3 => 3 | n => n, fun | n => n⟩
theorem Tryz.lays99 : Go.Proofs.Lays.n99 Tryz.prog Tryz.lays99_ren := {
 mixed := by kernel_rfl
 f99 := Tryz.func144.trans (congrArg some (by kernel_rfl))
 f206 := Tryz.func176.trans (congrArg some (by kernel_rfl))
 t3 := Tryz.underlying3
 a3 := Tryz.isAgg3
 z3 := Tryz.sizeOf3
 v3 := Tryz.zeroValue3
 t4 := Tryz.underlying4
 a4 := Tryz.isAgg4
 z4 := Tryz.sizeOf4
 v4 := Tryz.zeroValue4
 t9 := Tryz.underlying9
 a9 := Tryz.isAgg9
 z9 := Tryz.sizeOf9
 v9 := Tryz.zeroValue9 }
open Go.RowKit Go.Lib in
theorem Tryz.strings_HasPrefix (s p : ByteArray) (w : World) :
 Calls Tryz.prog 144 #[.string s, .string p] w fun e w' => e = .returned (.bool (Lib.hasPrefix s.data.toList p.data.toList)) ∧ w' = w := Any.strings_HasPrefix Tryz.lays99 s p w
def Tryz.lays221_ren : Go.Shelf.Ren := ⟨fun | 221 => 135 | 268 => 157 | 138 => 158 | 143 => 159 | 195 => 184 | 197 => 185 | 218 => 186 | 219 => 142 | 260 => 199 | 217 => 169 | 225 => 170 | 224 => 72 | 267 => 171 | 266 => 191 | 314 => 192 | n => n, fun | 9 => 9 | 3 => 3 | 31 => 37 | 4 => 4 | 0 => 0 | 105 => 220 | 21 => 21 | 5 => 5 | 46 => 113 | 119 => 242 | 139 => 245 | 138 => 244 | 146 => 151 | 51 => 150 | n => n, fun | 1 => 0 | 3 => 7 | 4 => 8 | n => n⟩
def Tryz.lays146_ren : Go.Shelf.Ren := ⟨fun | 146 => 112 | 221 => 135 | 268 => 157 | 138 => 158 | 143 => 159 | 195 => 184 | 197 => 185 | 218 => 186 | 219 => 142 | 260 => 199 | 217 => 169 | 225 => 170 | 224 => 72 | 267 => 171 | 266 => 191 | 314 => 192 | n => n, fun | 9 => 9 | 31 => 37 | 3 => 3 | 4 => 4 | 0 => 0 | 105 => 220 | 21 => 21 | 5 => 5 | 46 => 113 | 119 => 242 | 139 => 245 | 138 => 244 | 146 => 151 | 51 => 150 | n => n, fun | 1 => 0 | 3 => 7 | 4 => 8 | n => n⟩
theorem Tryz.lays146 : Go.Proofs.Lays.n146 Tryz.prog Tryz.lays146_ren := {
 mixed := by kernel_rfl
 f138 := Tryz.func158.trans (congrArg some (by kernel_rfl))
 f143 := Tryz.func159.trans (congrArg some (by kernel_rfl))
 f146 := Tryz.func112.trans (congrArg some (by kernel_rfl))
 f195 := Tryz.func184.trans (congrArg some (by kernel_rfl))
 f197 := Tryz.func185.trans (congrArg some (by kernel_rfl))
 f217 := Tryz.func169.trans (congrArg some (by kernel_rfl))
 f218 := Tryz.func186.trans (congrArg some (by kernel_rfl))
 f219 := Tryz.func142.trans (congrArg some (by kernel_rfl))
 f221 := Tryz.func135.trans (congrArg some (by kernel_rfl))
 f224 := Tryz.func72.trans (congrArg some (by kernel_rfl))
 f225 := Tryz.func170.trans (congrArg some (by kernel_rfl))
 f260 := Tryz.func199.trans (congrArg some (by kernel_rfl))
 f266 := Tryz.func191.trans (congrArg some (by kernel_rfl))
 f267 := Tryz.func171.trans (congrArg some (by kernel_rfl))
 f268 := Tryz.func157.trans (congrArg some (by kernel_rfl))
 f314 := Tryz.func192.trans (congrArg some (by kernel_rfl))
 t0 := Tryz.underlying0
 a0 := Tryz.isAgg0
 z0 := Tryz.sizeOf0
 v0 := Tryz.zeroValue0
 t3 := Tryz.underlying3
 a3 := Tryz.isAgg3
 z3 := Tryz.sizeOf3
 v3 := Tryz.zeroValue3
 t4 := Tryz.underlying4
 a4 := Tryz.isAgg4
 z4 := Tryz.sizeOf4
 v4 := Tryz.zeroValue4
 t5 := Tryz.underlying5
 a5 := Tryz.isAgg5
 z5 := Tryz.sizeOf5
 v5 := Tryz.zeroValue5
 t9 := Tryz.underlying9
 a9 := Tryz.isAgg9
 z9 := Tryz.sizeOf9
 v9 := Tryz.zeroValue9
 t21 := Tryz.underlying21
 a21 := Tryz.isAgg21
 z21 := Tryz.sizeOf21
 v21 := Tryz.zeroValue21
 t31 := Tryz.underlying37
 a31 := Tryz.isAgg37
 z31 := Tryz.sizeOf37
 v31 := Tryz.zeroValue37
 t46 := Tryz.underlying113
 a46 := Tryz.isAgg113
 z46 := Tryz.sizeOf113
 v46 := Tryz.zeroValue113
 t51 := Tryz.underlying150
 a51 := Tryz.isAgg150
 z51 := Tryz.sizeOf150
 v51 := Tryz.zeroValue150
 t105 := Tryz.underlying220
 a105 := Tryz.isAgg220
 z105 := Tryz.sizeOf220
 v105 := Tryz.zeroValue220
 t119 := Tryz.underlying242
 a119 := Tryz.isAgg242
 z119 := Tryz.sizeOf242
 t138 := Tryz.underlying244
 a138 := Tryz.isAgg244
 z138 := Tryz.sizeOf244
 v138 := Tryz.zeroValue244
 t139 := Tryz.underlying245
 a139 := Tryz.isAgg245
 z139 := Tryz.sizeOf245
 v139 := Tryz.zeroValue245
 t146 := Tryz.underlying151
 a146 := Tryz.isAgg151
 z146 := Tryz.sizeOf151
 v146 := Tryz.zeroValue151
 g1 := by kernel_rfl
 g3 := by kernel_rfl
 g4 := by kernel_rfl }
open Go.RowKit Go.Lib in
theorem Tryz.strings_Split (s sep : ByteArray) (m : Int) (w : World) (hs : s.size < 4294967281) (hm : w.cell? ⟨0, 0, none⟩ = some (.int .i64 m)) (h1 : 1 ≤ sep.size) :
 Calls Tryz.prog 112 #[.string s, .string sep] w fun e w' =>
  e = .returned (.slice (some ⟨w.heap.size, 0, none⟩) (Lib.countB s sep + 1) (Lib.countB s sep + 1)) ∧ w' = w.alloc (.cells ((Lib.splitB sep 0 (Lib.countB s sep) s).map Value.string).toArray 9) := Any.strings_Split Tryz.lays146 (by kernel_rfl) s sep m w hs hm h1
def Tryz.lays150_ren : Go.Shelf.Ren := ⟨fun | 150 => 128 | 153 => 143 | 152 => 172 | 226 => 173 | 227 => 174 | 228 => 175 | 137 => 193 | 119 => 194 | 224 => 72 | 225 => 170 | 217 => 169 | 266 => 191 | n => n, fun | 9 => 9 | 4 => 4 | 3 => 3 | 5 => 5 | 21 => 21 | 117 => 213 | 116 => 212 | 0 => 0 | 46 => 113 | 124 => 229 | n => n, fun | n => n⟩
theorem Tryz.lays150 : Go.Proofs.Lays.n150 Tryz.prog Tryz.lays150_ren := {
 mixed := by kernel_rfl
 f119 := Tryz.func194.trans (congrArg some (by kernel_rfl))
 f137 := Tryz.func193.trans (congrArg some (by kernel_rfl))
 f150 := Tryz.func128.trans (congrArg some (by kernel_rfl))
 f152 := Tryz.func172.trans (congrArg some (by kernel_rfl))
 f153 := Tryz.func143.trans (congrArg some (by kernel_rfl))
 f217 := Tryz.func169.trans (congrArg some (by kernel_rfl))
 f224 := Tryz.func72.trans (congrArg some (by kernel_rfl))
 f225 := Tryz.func170.trans (congrArg some (by kernel_rfl))
 f226 := Tryz.func173.trans (congrArg some (by kernel_rfl))
 f227 := Tryz.func174.trans (congrArg some (by kernel_rfl))
 f228 := Tryz.func175.trans (congrArg some (by kernel_rfl))
 f266 := Tryz.func191.trans (congrArg some (by kernel_rfl))
 t0 := Tryz.underlying0
 a0 := Tryz.isAgg0
 z0 := Tryz.sizeOf0
 v0 := Tryz.zeroValue0
 t3 := Tryz.underlying3
 a3 := Tryz.isAgg3
 z3 := Tryz.sizeOf3
 v3 := Tryz.zeroValue3
 t4 := Tryz.underlying4
 a4 := Tryz.isAgg4
 z4 := Tryz.sizeOf4
 v4 := Tryz.zeroValue4
 t5 := Tryz.underlying5
 a5 := Tryz.isAgg5
 z5 := Tryz.sizeOf5
 v5 := Tryz.zeroValue5
 t9 := Tryz.underlying9
 a9 := Tryz.isAgg9
 z9 := Tryz.sizeOf9
 v9 := Tryz.zeroValue9
 t21 := Tryz.underlying21
 a21 := Tryz.isAgg21
 z21 := Tryz.sizeOf21
 v21 := Tryz.zeroValue21
 t46 := Tryz.underlying113
 a46 := Tryz.isAgg113
 z46 := Tryz.sizeOf113
 v46 := Tryz.zeroValue113
 t116 := Tryz.underlying212
 a116 := Tryz.isAgg212
 z116 := Tryz.sizeOf212
 t117 := Tryz.underlying213
 a117 := Tryz.isAgg213
 z117 := Tryz.sizeOf213
 v117 := Tryz.zeroValue213
 t124 := Tryz.underlying229
 a124 := Tryz.isAgg229
 z124 := Tryz.sizeOf229
 v124 := Tryz.zeroValue229 }
open Go.RowKit Go.Lib in
theorem Tryz.strings_ContainsAny_laid (s chars : ByteArray) (w : World) (hs : s.size < 4294967281) (hcs : chars.size < 4294967281) (has : ∀ (j : Nat) b, s.data.toList[j]? = some b → b.toNat < 128) (hac : ∀ (j : Nat) b, chars.data.toList[j]? = some b → b.toNat < 128) :
 Calls Tryz.prog 128 #[.string s, .string chars] w fun e w' => e = .returned (.bool (Lib.containsAny s.data.toList chars.data.toList)) ∧ Below w.heap.size w w' := Any.strings_ContainsAny_laid Tryz.lays150 (by kernel_rfl) s chars w hs hcs has hac
def Tryz.lays212_ren : Go.Shelf.Ren := ⟨fun | 212 => 98 | 263 => 123 | 264 => 124 | n => n, fun | 46 => 113 | 51 => 150 | 146 => 151 | 53 => 172 | 148 => 173 | n => n, fun | n => n⟩
theorem Tryz.lays212 : Go.Proofs.Lays.n212 Tryz.prog Tryz.lays212_ren := {
 mixed := by kernel_rfl
 f212 := Tryz.func98.trans (congrArg some (by kernel_rfl))
 f263 := Tryz.func123.trans (congrArg some (by kernel_rfl))
 f264 := Tryz.func124.trans (congrArg some (by kernel_rfl))
 t46 := Tryz.underlying113
 a46 := Tryz.isAgg113
 z46 := Tryz.sizeOf113
 v46 := Tryz.zeroValue113
 t51 := Tryz.underlying150
 a51 := Tryz.isAgg150
 z51 := Tryz.sizeOf150
 v51 := Tryz.zeroValue150
 t53 := Tryz.underlying172
 a53 := Tryz.isAgg172
 z53 := Tryz.sizeOf172
 v53 := Tryz.zeroValue172
 t146 := Tryz.underlying151
 a146 := Tryz.isAgg151
 z146 := Tryz.sizeOf151
 v146 := Tryz.zeroValue151
 t148 := Tryz.underlying173
 a148 := Tryz.isAgg173
 z148 := Tryz.sizeOf173
 v148 := Tryz.zeroValue173 }
open Go.RowKit Go.Lib in
theorem Tryz.bits_Mul (x y : Nat) (hx : x < 18446744073709551616) (hy : y < 18446744073709551616) (w : World) :
 Calls Tryz.prog 98 #[.int .u64 x, .int .u64 y] w fun e w' => e = .returned (.tuple #[.int .u64 ((x * y / 18446744073709551616 : Nat) : Int), .int .u64 ((x * y % 18446744073709551616 : Nat) : Int)]) ∧ w' = w := Any.bits_Mul Tryz.lays212 x y hx hy w
def Tryz.lays185_ren : Go.Shelf.Ren := ⟨fun | 185 => 47 | 187 => 69 | 115 => 70 | 253 => 71 | 224 => 72 | 254 => 73 | 255 => 99 | 291 => 100 | n => n, fun | 37 => 26 | 3 => 3 | 4 => 4 | 0 => 0 | 5 => 5 | 46 => 113 | 9 => 9 | 146 => 151 | 51 => 150 | n => n, fun | 1 => 0 | n => n⟩
theorem Tryz.lays185 : Go.Proofs.Lays.n185 Tryz.prog Tryz.lays185_ren := {
 mixed := by kernel_rfl
 f115 := Tryz.func70.trans (congrArg some (by kernel_rfl))
 f185 := Tryz.func47.trans (congrArg some (by kernel_rfl))
 f187 := Tryz.func69.trans (congrArg some (by kernel_rfl))
 f224 := Tryz.func72.trans (congrArg some (by kernel_rfl))
 f253 := Tryz.func71.trans (congrArg some (by kernel_rfl))
 f254 := Tryz.func73.trans (congrArg some (by kernel_rfl))
 f255 := Tryz.func99.trans (congrArg some (by kernel_rfl))
 f291 := Tryz.func100.trans (congrArg some (by kernel_rfl))
 t0 := Tryz.underlying0
 a0 := Tryz.isAgg0
 z0 := Tryz.sizeOf0
 v0 := Tryz.zeroValue0
 t3 := Tryz.underlying3
 a3 := Tryz.isAgg3
 z3 := Tryz.sizeOf3
 v3 := Tryz.zeroValue3
 t4 := Tryz.underlying4
 a4 := Tryz.isAgg4
 z4 := Tryz.sizeOf4
 v4 := Tryz.zeroValue4
 t5 := Tryz.underlying5
 a5 := Tryz.isAgg5
 z5 := Tryz.sizeOf5
 v5 := Tryz.zeroValue5
 t9 := Tryz.underlying9
 a9 := Tryz.isAgg9
 z9 := Tryz.sizeOf9
 v9 := Tryz.zeroValue9
 t37 := Tryz.underlying26
 a37 := Tryz.isAgg26
 z37 := Tryz.sizeOf26
 v37 := Tryz.zeroValue26
 t46 := Tryz.underlying113
 a46 := Tryz.isAgg113
 z46 := Tryz.sizeOf113
 v46 := Tryz.zeroValue113
 t51 := Tryz.underlying150
 a51 := Tryz.isAgg150
 z51 := Tryz.sizeOf150
 v51 := Tryz.zeroValue150
 t146 := Tryz.underlying151
 a146 := Tryz.isAgg151
 z146 := Tryz.sizeOf151
 v146 := Tryz.zeroValue151
 g1 := by kernel_rfl }
open Go.Proofs Go.RowKit Go.Lib in
theorem Tryz.bytes_Index_at (a1 a2 : Addr) (n c1 k c2 : Nat) (xs ys : List Int) (m : Int) (w : World) (hx : xs.length = n) (hy : ys.length = k) (hr1 : ∀ x ∈ xs, 0 ≤ x ∧ x < 256) (hr2 : ∀ y ∈ ys, 0 ≤ y ∧ y < 256) (hc1 : ∀ i, i < n → w.cell? (a1.add i) = some (.int .u8 (xs.getD i 0))) (hc2 : ∀ i, i < k → w.cell? (a2.add i) = some (.int .u8 (ys.getD i 0))) (hcap : n ≤ c1) (hs : n < 4294967281) (hk : k ≤ 9223372036854775807) (hm : w.cell? ⟨0, 0, none⟩ = some (.int .i64 m)) :
 Calls Tryz.prog 47 #[.slice (some a1) n c1, .slice (some a2) k c2] w fun e w' => e = .returned (.int .i64 (Lib.index (Lib.bytesOf xs) (Lib.bytesOf ys))) ∧ ∃ q, w' = w.drewN q := Any.bytes_Index_at Tryz.lays185 a1 a2 n c1 k c2 xs ys m w hx hy hr1 hr2 hc1 hc2 hcap hs hk hm
open Go.Proofs Go.RowKit Go.Lib in
theorem Tryz.bytes_Index_nil (p2 : Option Addr) (k c2 : Nat) (w : World) (hk : k ≤ 9223372036854775807) (h1 : k = 1 → ∃ b2 o2 cv, p2 = some ⟨b2, o2, none⟩ ∧ w.cell? ⟨b2, o2, none⟩ = some (.int .u8 cv)) :
 Calls Tryz.prog 47 #[.slice none 0 0, .slice p2 k c2] w fun e w' => e = .returned (.int .i64 (if k = 0 then 0 else -1)) ∧ w' = w := Any.bytes_Index_nil Tryz.lays185 p2 k c2 w hk h1
def Tryz.laysSlK4_ren : Go.Shelf.Ren := ⟨fun | 4 => 52 | n => n, fun | 22 => 26 | 4 => 4 | 5 => 5 | n => n, fun | n => n⟩
theorem Tryz.laysSlK4 : Go.Proofs.SlLaysK.n4 Tryz.prog Tryz.laysSlK4_ren := {
 mixed := by kernel_rfl
 f4 := Tryz.func52.trans (congrArg some (by kernel_rfl))
 t4 := Tryz.underlying4
 a4 := Tryz.isAgg4
 z4 := Tryz.sizeOf4
 v4 := Tryz.zeroValue4
 t22 := Tryz.underlying26
 a22 := Tryz.isAgg26
 z22 := Tryz.sizeOf26
 v22 := Tryz.zeroValue26
 t5 := Tryz.underlying5
 i5 := by kernel_rfl }
open Go.RowKit Go.Lib in
theorem Tryz.bytes_Clone_at (a : Addr) (n c : Nat) (xs : List Int) (w : World) (hx : xs.length = n) (hbig : n ≤ 140737488355328) (hc : ∀ i, i < n → w.cell? (a.add i) = some (.int .u8 (xs.getD i 0))) :
 Calls Tryz.prog 52 #[.slice (some a) n c] w fun e w' => ∃ v', e = .returned v' ∧ w'.ownsRow w.heap.size 5 1 v' n (xs.map (Value.int .u8)) ∧ v' ≠ .slice none 0 0 ∧ Below w.heap.size w w' := Any.bytes_Clone_at Tryz.laysSlK4 a n c xs w hx hbig hc
open Go.RowKit Go.Lib in
theorem Tryz.bytes_Clone_nil (n c : Nat) (w : World) :
 Calls Tryz.prog 52 #[.slice none n c] w fun e w' => e = .returned (.slice none 0 0) ∧ w' = w := Any.bytes_Clone_nil Tryz.laysSlK4 n c w
end Go.Proofs
