/-
  Shelf.
-/
import Derived.Shelf.Strings.Builder1
import Derived.Shelf.Strings.Builder2
import Derived.Shelf.Strings.OnBuilder
import Derived.Shelf.Strings.Trim
import Derived.Shelf.Small.Utf8
import Derived.Shelf.Small.Strs
import Derived.Shelf.Strings.BuilderF
import Derived.Shelf.Strings.BuilderK
import Derived.Shelf.Utf8.RuneCount
import Derived.Shelf.Strings.Builder2Cap
import Derived.Shelf.Strconv.Atoi
import Derived.Shelf.Strconv.Itoa0
import Derived.Shelf.Strconv.Itoa1
import Derived.Shelf.LaysM
import Derived.Shelf.Strconv.Itoa2
import Derived.Shelf.Strconv.Itoa3
import Derived.Shelf.Bytes.Len
import Derived.Shelf.Bytes.TryGrow
import Derived.Shelf.Bytes.GrowSliceCatch
import Derived.Shelf.Bytes.GrowSlice
import Derived.Shelf.Bytes.GrowRow0
import Derived.Shelf.Bytes.GrowRow
import Derived.Shelf.Bytes.GrowNil
import Derived.Shelf.Bytes.Grow
import Derived.Shelf.Bytes.WriteString
import Derived.Shelf.Bytes.Reset
import Derived.Shelf.Bytes.Write
import Derived.Shelf.Bytes.Bytes
import Derived.Shelf.Strconv.AtoiErrFast
import Derived.Shelf.Strconv.ParseIntEmpty
import Derived.Shelf.Strconv.AtoiFail
import Derived.Shelf.Strconv.Clone
import Derived.Shelf.Strconv.SyntaxError
import Derived.Shelf.LaysC
import Derived.Shelf.Strconv.ToError
import Derived.Shelf.Strconv.AtoiErr
import Derived.Shelf.Strconv.ErrVar
import Derived.Shelf.Strconv.Lower
import Derived.Shelf.Strconv.ParseUint10
import Derived.Shelf.Strconv.ParseUint10Empty
import Derived.Shelf.Strconv.ParseUint10Any
import Derived.Shelf.Strconv.ParseInt10
import Derived.Shelf.Strconv.AtoiLong
import Derived.Shelf.Strconv.AtoiInnerAll
import Derived.Shelf.Strconv.RangeError
import Derived.Shelf.Strconv.ToErrorRange
import Derived.Shelf.Strconv.AtoiAll
import Derived.Shelf.Strconv.ErrVarAll
import Derived.Shelf.Strconv.ParseUintEmpty
import Derived.Shelf.Strconv.ParseUint10b64
import Derived.Shelf.Strconv.ParseUint10b32
import Derived.Shelf.Strconv.ParseUint10b16
import Derived.Shelf.Strconv.ParseUint10b8
import Derived.Shelf.Strconv.ParseUint10At
import Derived.Shelf.Strconv.ParseInt10At64
import Derived.Shelf.Strconv.ParseInt10At32
import Derived.Shelf.Strconv.ParseInt10At16
import Derived.Shelf.Strconv.ParseInt10At8
import Derived.Shelf.Strconv.ParseInt10All
import Derived.Shelf.Strings.Search1
import Derived.Shelf.Bytes.GrowRow0Kept
import Derived.Shelf.Strings.Search2
import Derived.Shelf.Bytes.GrowRowKept
import Derived.Shelf.Strings.Search3
import Derived.Shelf.Bytes.GrowNilKept
import Derived.Shelf.Strings.Cut
import Derived.Shelf.Bytes.GrowKept
import Derived.Shelf.Strings.Count
import Derived.Shelf.Strings.Shaped
import Derived.Shelf.Bytes.WriteStringKept
import Derived.Shelf.Bytes.ResetKept
import Derived.Shelf.Bytes.WriteKept
import Derived.Shelf.Bytes.BufferK
import Derived.Shelf.Bytes.GrowRow0Own
import Derived.Shelf.Bytes.GrowRowOwn
import Derived.Shelf.Bytes.GrowNilOwn
import Derived.Shelf.Bytes.GrowOwn
import Derived.Shelf.Bytes.WriteAny
import Derived.Shelf.Bytes.LenAt
import Derived.Shelf.Bytes.TryGrowAt
import Derived.Shelf.Bytes.GrowRow0At
import Derived.Shelf.Bytes.GrowRowAt
import Derived.Shelf.Bytes.GrowNilAt
import Derived.Shelf.Bytes.GrowAt
import Derived.Shelf.Bytes.WriteStringAt
import Derived.Shelf.Bytes.WriteAt
import Derived.Shelf.Strings.Prefix
import Derived.Shelf.Strings.Split
import Derived.Shelf.Strings.SplitShaped
import Derived.Shelf.Unicode.Decode
import Derived.Shelf.Strings.Runes
import Derived.Shelf.Strings.RuneCount
import Derived.Shelf.Strings.AsciiSet
import Derived.Shelf.Strings.Explode
import Derived.Shelf.Unicode.DecodeSlow
import Derived.Shelf.Unicode.DecodeAny
import Derived.Shelf.Unicode.DecodeLast
import Derived.Shelf.Bytes.SlIndexSmall
import Derived.Ground.SlbNamesProg
import Derived.Shelf.Bytes.SlCountOne
import Derived.Shelf.Bytes.SlIndexAt
import Derived.Shelf.Bytes.SlSearch0
import Derived.Shelf.Bytes.SlSearch1
import Derived.Shelf.Bytes.SlSearch2
import Derived.Shelf.Bytes.SlIndexWhole
import Derived.Shelf.Bytes.SlCountWhole
import Derived.Shelf.Bytes.SlSplit
import Derived.Shelf.Bytes.SlSplitNil
import Derived.Ground.SlbCloneProg
import Derived.Shelf.Bytes.SlClone
import Derived.Shelf.Bytes.SlSmallAll
import Derived.Shelf.Bytes.SlEqualAll
import Derived.Shelf.Bytes.Small
import Derived.Shelf.Bytes.IndexByte
import Derived.Test.YteahkgbnfbjkhaaGreatDoorProg
namespace Go.Proofs
open Go.Shelf
def Tryz.lays169_ren : Go.Shelf.Ren := ⟨fun | 169 => 125 | n => n, fun | 70 => 162 | 9 => 9 | 0 => 0 | 72 => 164 | 37 => 29 | 127 => 189 | 3 => 3 | 5 => 5 | n => n, fun | n => n⟩
theorem Tryz.lays169 : Go.Proofs.Lays.n169 Tryz.prog Tryz.lays169_ren := {
 mixed := by kernel_rfl
 f169 := Tryz.func125.trans (congrArg some (by kernel_rfl))
 t0 := Tryz.underlying0
 a0 := Tryz.isAgg0
 z0 := Tryz.sizeOf0
 v0 := Tryz.zeroValue0
 t3 := Tryz.underlying3
 a3 := Tryz.isAgg3
 z3 := Tryz.sizeOf3
 v3 := Tryz.zeroValue3
 t9 := Tryz.underlying9
 a9 := Tryz.isAgg9
 z9 := Tryz.sizeOf9
 v9 := Tryz.zeroValue9
 t37 := Tryz.underlying29
 a37 := Tryz.isAgg29
 z37 := Tryz.sizeOf29
 v37 := Tryz.zeroValue29
 t70 := Tryz.underlying162
 a70 := Tryz.isAgg162
 z70 := Tryz.sizeOf162
 v70 := Tryz.zeroValue162
 t72 := Tryz.underlying164
 a72 := Tryz.isAgg164
 z72 := Tryz.sizeOf164
 v72 := Tryz.zeroValue164
 t127 := Tryz.underlying189
 a127 := Tryz.isAgg189
 z127 := Tryz.sizeOf189
 v127 := Tryz.zeroValue189 }
theorem Tryz.Builder_Extra_169 : Builder.Extra Tryz.prog Tryz.lays169_ren := {
 sizeBuilder := by kernel_rfl
 liesBuilder := by kernel_rfl
 t5 := Tryz.underlying5
 a5 := Tryz.isAgg5
 z5 := Tryz.sizeOf5
 v5 := Tryz.zeroValue5
 infoByte := by kernel_rfl
 cellsByte := by kernel_rfl
 sizeByte := by kernel_rfl
 neB5 := by decide }
open Go.RowKit in
theorem Tryz.Builder_String_any (B b : Nat) (l : List UInt8) (w : World) (h : Lib.IsBuilder 164 5 B b (Lib.byteCells l) w) (hBw : B ≤ w.heap.size) :
 Calls Tryz.prog 125 #[.pointer (some ⟨b, 0, none⟩)] w fun e w' => e = .returned (.string ⟨l.toArray⟩) ∧ Below B w w' := Any.Builder_String_any Tryz.lays169 Tryz.Builder_Extra_169 B b l w h hBw
def Tryz.lays156_ren : Go.Shelf.Ren := ⟨fun | 156 => 57 | 165 => 123 | 166 => 124 | 169 => 125 | 240 => 175 | 241 => 176 | 276 => 204 | 277 => 205 | n => n, fun | 31 => 45 | 9 => 9 | 3 => 3 | 4 => 4 | 0 => 0 | 20 => 20 | 72 => 164 | 76 => 110 | 70 => 162 | 37 => 29 | 75 => 109 | 127 => 189 | 164 => 208 | 5 => 5 | 80 => 166 | n => n, fun | n => n⟩
theorem Tryz.lays156 : Go.Proofs.Lays.n156 Tryz.prog Tryz.lays156_ren := {
 mixed := by kernel_rfl
 f156 := Tryz.func57.trans (congrArg some (by kernel_rfl))
 f165 := Tryz.func123.trans (congrArg some (by kernel_rfl))
 f166 := Tryz.func124.trans (congrArg some (by kernel_rfl))
 f169 := Tryz.func125.trans (congrArg some (by kernel_rfl))
 f240 := Tryz.func175.trans (congrArg some (by kernel_rfl))
 f241 := Tryz.func176.trans (congrArg some (by kernel_rfl))
 f276 := Tryz.func204.trans (congrArg some (by kernel_rfl))
 f277 := Tryz.func205.trans (congrArg some (by kernel_rfl))
 t0 := Tryz.underlying0
 a0 := Tryz.isAgg0
 z0 := Tryz.sizeOf0
 v0 := Tryz.zeroValue0
 t3 := Tryz.underlying3
 a3 := Tryz.isAgg3
 z3 := Tryz.sizeOf3
 v3 := Tryz.zeroValue3
 t4 := Tryz.underlying4
 a4 := Tryz.isAgg4
 z4 := Tryz.sizeOf4
 v4 := Tryz.zeroValue4
 t9 := Tryz.underlying9
 a9 := Tryz.isAgg9
 z9 := Tryz.sizeOf9
 v9 := Tryz.zeroValue9
 t20 := Tryz.underlying20
 a20 := Tryz.isAgg20
 z20 := Tryz.sizeOf20
 v20 := Tryz.zeroValue20
 t31 := Tryz.underlying45
 a31 := Tryz.isAgg45
 z31 := Tryz.sizeOf45
 v31 := Tryz.zeroValue45
 t37 := Tryz.underlying29
 a37 := Tryz.isAgg29
 z37 := Tryz.sizeOf29
 v37 := Tryz.zeroValue29
 t70 := Tryz.underlying162
 a70 := Tryz.isAgg162
 z70 := Tryz.sizeOf162
 v70 := Tryz.zeroValue162
 t72 := Tryz.underlying164
 a72 := Tryz.isAgg164
 z72 := Tryz.sizeOf164
 v72 := Tryz.zeroValue164
 t75 := Tryz.underlying109
 a75 := Tryz.isAgg109
 z75 := Tryz.sizeOf109
 v75 := Tryz.zeroValue109
 t76 := Tryz.underlying110
 a76 := Tryz.isAgg110
 z76 := Tryz.sizeOf110
 v76 := Tryz.zeroValue110
 t127 := Tryz.underlying189
 a127 := Tryz.isAgg189
 z127 := Tryz.sizeOf189
 v127 := Tryz.zeroValue189
 t164 := Tryz.underlying208
 a164 := Tryz.isAgg208
 z164 := Tryz.sizeOf208
 v164 := Tryz.zeroValue208 }
theorem Tryz.Builder_Extra_156 : Builder.Extra Tryz.prog Tryz.lays156_ren := {
 sizeBuilder := by kernel_rfl
 liesBuilder := by kernel_rfl
 t5 := Tryz.underlying5
 a5 := Tryz.isAgg5
 z5 := Tryz.sizeOf5
 v5 := Tryz.zeroValue5
 infoByte := by kernel_rfl
 cellsByte := by kernel_rfl
 sizeByte := by kernel_rfl
 neB5 := by decide }
open Go.RowKit in
theorem Tryz.strings_Join_none (a : Option Addr) (c : Nat) (sep : ByteArray) (w : World) :
 Calls Tryz.prog 57 #[.slice a 0 c, .string sep] w fun e w' => e = .returned (.string ⟨#[]⟩) ∧ w' = w := Any.strings_Join_none Tryz.lays156 Tryz.Builder_Extra_156 a c sep w
open Go.RowKit in
theorem Tryz.strings_Join (bk o c : Nat) (xs : List ByteArray) (sep : ByteArray) (w : World) (hcells : ∀ (j : Nat) x, xs[j]? = some x → w.cell? ⟨bk, o + j, none⟩ = some (.string x)) (hbk : bk < w.heap.size) (hN : xs.length ≤ 140737488355328) (hcap : xs.length ≤ c) (hlen : (Lib.join (xs.map (·.data.toList)) sep.data.toList).length ≤ 140737488355328) :
 Calls Tryz.prog 57 #[.slice (some ⟨bk, o, none⟩) xs.length c, .string sep] w fun e w' => e = .returned (.string ⟨(Lib.join (xs.map (·.data.toList)) sep.data.toList).toArray⟩) ∧ Below w.heap.size w w' := Any.strings_Join Tryz.lays156 Tryz.Builder_Extra_156 bk o c xs sep w hcells hbk hN hcap hlen
def Tryz.lays161_ren : Go.Shelf.Ren := ⟨fun | 161 => 152 | 231 => 184 | 227 => 186 | 233 => 187 | 235 => 189 | 228 => 219 | 197 => 220 | 151 => 221 | 260 => 245 | 152 => 246 | 137 => 259 | 119 => 251 | 224 => 96 | 225 => 230 | 217 => 236 | 266 => 225 | n => n, fun | 9 => 9 | 4 => 4 | 3 => 3 | 5 => 5 | 117 => 197 | 116 => 196 | 0 => 0 | 124 => 200 | 105 => 219 | 21 => 21 | 119 => 254 | 46 => 132 | 139 => 257 | 138 => 256 | n => n, fun | 3 => 5 | 4 => 6 | n => n⟩
theorem Tryz.lays161 : Go.Proofs.Lays.n161 Tryz.prog Tryz.lays161_ren := {
 mixed := by kernel_rfl
 f119 := Tryz.func251.trans (congrArg some (by kernel_rfl))
 f137 := Tryz.func259.trans (congrArg some (by kernel_rfl))
 f151 := Tryz.func221.trans (congrArg some (by kernel_rfl))
 f152 := Tryz.func246.trans (congrArg some (by kernel_rfl))
 f161 := Tryz.func152.trans (congrArg some (by kernel_rfl))
 f197 := Tryz.func220.trans (congrArg some (by kernel_rfl))
 f217 := Tryz.func236.trans (congrArg some (by kernel_rfl))
 f224 := Tryz.func96.trans (congrArg some (by kernel_rfl))
 f225 := Tryz.func230.trans (congrArg some (by kernel_rfl))
 f227 := Tryz.func186.trans (congrArg some (by kernel_rfl))
 f228 := Tryz.func219.trans (congrArg some (by kernel_rfl))
 f231 := Tryz.func184.trans (congrArg some (by kernel_rfl))
 f233 := Tryz.func187.trans (congrArg some (by kernel_rfl))
 f235 := Tryz.func189.trans (congrArg some (by kernel_rfl))
 f260 := Tryz.func245.trans (congrArg some (by kernel_rfl))
 f266 := Tryz.func225.trans (congrArg some (by kernel_rfl))
 t0 := Tryz.underlying0
 a0 := Tryz.isAgg0
 z0 := Tryz.sizeOf0
 v0 := Tryz.zeroValue0
 t3 := Tryz.underlying3
 a3 := Tryz.isAgg3
 z3 := Tryz.sizeOf3
 v3 := Tryz.zeroValue3
 t4 := Tryz.underlying4
 a4 := Tryz.isAgg4
 z4 := Tryz.sizeOf4
 v4 := Tryz.zeroValue4
 t5 := Tryz.underlying5
 a5 := Tryz.isAgg5
 z5 := Tryz.sizeOf5
 v5 := Tryz.zeroValue5
 t9 := Tryz.underlying9
 a9 := Tryz.isAgg9
 z9 := Tryz.sizeOf9
 v9 := Tryz.zeroValue9
 t21 := Tryz.underlying21
 a21 := Tryz.isAgg21
 z21 := Tryz.sizeOf21
 v21 := Tryz.zeroValue21
 t46 := Tryz.underlying132
 a46 := Tryz.isAgg132
 z46 := Tryz.sizeOf132
 v46 := Tryz.zeroValue132
 t105 := Tryz.underlying219
 a105 := Tryz.isAgg219
 z105 := Tryz.sizeOf219
 v105 := Tryz.zeroValue219
 t116 := Tryz.underlying196
 a116 := Tryz.isAgg196
 z116 := Tryz.sizeOf196
 t117 := Tryz.underlying197
 a117 := Tryz.isAgg197
 z117 := Tryz.sizeOf197
 v117 := Tryz.zeroValue197
 t119 := Tryz.underlying254
 a119 := Tryz.isAgg254
 z119 := Tryz.sizeOf254
 t124 := Tryz.underlying200
 a124 := Tryz.isAgg200
 z124 := Tryz.sizeOf200
 v124 := Tryz.zeroValue200
 t138 := Tryz.underlying256
 a138 := Tryz.isAgg256
 z138 := Tryz.sizeOf256
 v138 := Tryz.zeroValue256
 t139 := Tryz.underlying257
 a139 := Tryz.isAgg257
 z139 := Tryz.sizeOf257
 v139 := Tryz.zeroValue257
 g3 := by kernel_rfl
 g4 := by kernel_rfl }
def Tryz.lays160_ren : Go.Shelf.Ren := ⟨fun | 160 => 135 | 232 => 185 | 231 => 184 | 227 => 186 | 234 => 188 | 233 => 187 | 236 => 190 | 235 => 189 | 228 => 219 | 271 => 222 | 151 => 221 | 197 => 220 | 120 => 247 | 152 => 246 | 260 => 245 | 137 => 259 | 119 => 251 | 224 => 96 | 225 => 230 | 217 => 236 | 266 => 225 | n => n, fun | 9 => 9 | 4 => 4 | 3 => 3 | 5 => 5 | 117 => 197 | 116 => 196 | 0 => 0 | 124 => 200 | 21 => 21 | 105 => 219 | 46 => 132 | 119 => 254 | 139 => 257 | 138 => 256 | n => n, fun | 3 => 5 | 4 => 6 | n => n⟩
theorem Tryz.lays160 : Go.Proofs.Lays.n160 Tryz.prog Tryz.lays160_ren := {
 mixed := by kernel_rfl
 f119 := Tryz.func251.trans (congrArg some (by kernel_rfl))
 f120 := Tryz.func247.trans (congrArg some (by kernel_rfl))
 f137 := Tryz.func259.trans (congrArg some (by kernel_rfl))
 f151 := Tryz.func221.trans (congrArg some (by kernel_rfl))
 f152 := Tryz.func246.trans (congrArg some (by kernel_rfl))
 f160 := Tryz.func135.trans (congrArg some (by kernel_rfl))
 f197 := Tryz.func220.trans (congrArg some (by kernel_rfl))
 f217 := Tryz.func236.trans (congrArg some (by kernel_rfl))
 f224 := Tryz.func96.trans (congrArg some (by kernel_rfl))
 f225 := Tryz.func230.trans (congrArg some (by kernel_rfl))
 f227 := Tryz.func186.trans (congrArg some (by kernel_rfl))
 f228 := Tryz.func219.trans (congrArg some (by kernel_rfl))
 f231 := Tryz.func184.trans (congrArg some (by kernel_rfl))
 f232 := Tryz.func185.trans (congrArg some (by kernel_rfl))
 f233 := Tryz.func187.trans (congrArg some (by kernel_rfl))
 f234 := Tryz.func188.trans (congrArg some (by kernel_rfl))
 f235 := Tryz.func189.trans (congrArg some (by kernel_rfl))
 f236 := Tryz.func190.trans (congrArg some (by kernel_rfl))
 f260 := Tryz.func245.trans (congrArg some (by kernel_rfl))
 f266 := Tryz.func225.trans (congrArg some (by kernel_rfl))
 f271 := Tryz.func222.trans (congrArg some (by kernel_rfl))
 t0 := Tryz.underlying0
 a0 := Tryz.isAgg0
 z0 := Tryz.sizeOf0
 v0 := Tryz.zeroValue0
 t3 := Tryz.underlying3
 a3 := Tryz.isAgg3
 z3 := Tryz.sizeOf3
 v3 := Tryz.zeroValue3
 t4 := Tryz.underlying4
 a4 := Tryz.isAgg4
 z4 := Tryz.sizeOf4
 v4 := Tryz.zeroValue4
 t5 := Tryz.underlying5
 a5 := Tryz.isAgg5
 z5 := Tryz.sizeOf5
 v5 := Tryz.zeroValue5
 t9 := Tryz.underlying9
 a9 := Tryz.isAgg9
 z9 := Tryz.sizeOf9
 v9 := Tryz.zeroValue9
 t21 := Tryz.underlying21
 a21 := Tryz.isAgg21
 z21 := Tryz.sizeOf21
 v21 := Tryz.zeroValue21
 t46 := Tryz.underlying132
 a46 := Tryz.isAgg132
 z46 := Tryz.sizeOf132
 v46 := Tryz.zeroValue132
 t105 := Tryz.underlying219
 a105 := Tryz.isAgg219
 z105 := Tryz.sizeOf219
 v105 := Tryz.zeroValue219
 t116 := Tryz.underlying196
 a116 := Tryz.isAgg196
 z116 := Tryz.sizeOf196
 t117 := Tryz.underlying197
 a117 := Tryz.isAgg197
 z117 := Tryz.sizeOf197
 v117 := Tryz.zeroValue197
 t119 := Tryz.underlying254
 a119 := Tryz.isAgg254
 z119 := Tryz.sizeOf254
 t124 := Tryz.underlying200
 a124 := Tryz.isAgg200
 z124 := Tryz.sizeOf200
 v124 := Tryz.zeroValue200
 t138 := Tryz.underlying256
 a138 := Tryz.isAgg256
 z138 := Tryz.sizeOf256
 v138 := Tryz.zeroValue256
 t139 := Tryz.underlying257
 a139 := Tryz.isAgg257
 z139 := Tryz.sizeOf257
 v139 := Tryz.zeroValue257
 g3 := by kernel_rfl
 g4 := by kernel_rfl }
open Go.RowKit in
theorem Tryz.strings_Trim_one (s : ByteArray) (c : UInt8) (hc : c.toNat < 128) (w : World) (hs : s.size ≤ 9223372036854775807) :
 Calls Tryz.prog 135 #[.string s, .string ⟨#[c]⟩] w fun e w' => e = .returned (.string ⟨(Lib.trimB s.data.toList c).toArray⟩) ∧ (w' = w ∨ w' = w.drew) := Any.strings_Trim_one Tryz.lays160 s c hc w hs
def Tryz.lays137_ren : Go.Shelf.Ren := ⟨fun | 137 => 259 | 217 => 236 | 266 => 225 | n => n, fun | 9 => 9 | 5 => 5 | 3 => 3 | n => n, fun | n => n⟩
theorem Tryz.lays137 : Go.Proofs.Lays.n137 Tryz.prog Tryz.lays137_ren := {
 mixed := by kernel_rfl
 f137 := Tryz.func259.trans (congrArg some (by kernel_rfl))
 f217 := Tryz.func236.trans (congrArg some (by kernel_rfl))
 f266 := Tryz.func225.trans (congrArg some (by kernel_rfl))
 t3 := Tryz.underlying3
 a3 := Tryz.isAgg3
 z3 := Tryz.sizeOf3
 v3 := Tryz.zeroValue3
 t5 := Tryz.underlying5
 a5 := Tryz.isAgg5
 z5 := Tryz.sizeOf5
 v5 := Tryz.zeroValue5
 t9 := Tryz.underlying9
 a9 := Tryz.isAgg9
 z9 := Tryz.sizeOf9
 v9 := Tryz.zeroValue9 }
open Go.RowKit in
theorem Tryz.strings_IndexByte (s : ByteArray) (c : Int) (w : World) :
 Calls Tryz.prog 259 #[.string s, .int .u8 c] w fun e w' => e = .returned (.int .i64 (Lib.indexByte s.data.toList c.toNat.toUInt8)) ∧ w' = w := Any.strings_IndexByte Tryz.lays137 s c w
def Tryz.lays172_ren : Go.Shelf.Ren := ⟨fun | 172 => 130 | 244 => 180 | 245 => 181 | 247 => 210 | 279 => 211 | 280 => 212 | 281 => 213 | 282 => 214 | 287 => 242 | 316 => 243 | 171 => 90 | 205 => 244 | 321 => 260 | 322 => 261 | 243 => 146 | 246 => 194 | 283 => 232 | 284 => 233 | 285 => 234 | 286 => 235 | 129 => 254 | 317 => 253 | 318 => 255 | 319 => 256 | 320 => 257 | 337 => 263 | 338 => 264 | n => n, fun | 9 => 9 | 3 => 3 | 75 => 109 | 76 => 110 | 4 => 4 | 5 => 5 | 167 => 212 | 37 => 29 | 0 => 0 | 85 => 213 | 2 => 2 | 168 => 215 | 53 => 229 | 175 => 235 | 46 => 132 | 210 => 238 | 127 => 189 | 145 => 253 | 143 => 251 | 21 => 21 | 171 => 228 | 173 => 232 | 212 => 246 | 51 => 175 | 20 => 20 | 213 => 247 | 232 => 259 | 233 => 260 | 80 => 166 | n => n, fun | 15 => 2 | 16 => 3 | 17 => 4 | 18 => 7 | 19 => 8 | n => n⟩
def Tryz.laysM246_ren : Go.Shelf.Ren := ⟨fun | 246 => 194 | 283 => 232 | 284 => 233 | 285 => 234 | 286 => 235 | 129 => 254 | 317 => 253 | 318 => 255 | 319 => 256 | 320 => 257 | 337 => 263 | 338 => 264 | n => n, fun | 2 => 2 | 3 => 3 | 9 => 9 | 4 => 4 | 171 => 228 | 0 => 0 | 53 => 229 | 37 => 29 | 5 => 5 | 173 => 232 | 212 => 246 | 51 => 175 | 20 => 20 | 213 => 247 | 46 => 132 | 232 => 259 | 233 => 260 | n => n, fun | 17 => 4 | 18 => 7 | 19 => 8 | n => n⟩
def Tryz.laysM243_ren : Go.Shelf.Ren := ⟨fun | 243 => 146 | 246 => 194 | 283 => 232 | 284 => 233 | 285 => 234 | 286 => 235 | 129 => 254 | 317 => 253 | 318 => 255 | 319 => 256 | 320 => 257 | 337 => 263 | 338 => 264 | n => n, fun | 3 => 3 | 9 => 9 | 2 => 2 | 4 => 4 | 171 => 228 | 0 => 0 | 53 => 229 | 37 => 29 | 5 => 5 | 173 => 232 | 212 => 246 | 51 => 175 | 20 => 20 | 213 => 247 | 46 => 132 | 232 => 259 | 233 => 260 | n => n, fun | 17 => 4 | 18 => 7 | 19 => 8 | n => n⟩
def Tryz.laysM171_ren : Go.Shelf.Ren := ⟨fun | 171 => 90 | 243 => 146 | 246 => 194 | 283 => 232 | 284 => 233 | 285 => 234 | 286 => 235 | 129 => 254 | 317 => 253 | 318 => 255 | 319 => 256 | 320 => 257 | 337 => 263 | 338 => 264 | n => n, fun | 3 => 3 | 9 => 9 | 2 => 2 | 4 => 4 | 171 => 228 | 0 => 0 | 53 => 229 | 37 => 29 | 5 => 5 | 173 => 232 | 212 => 246 | 51 => 175 | 20 => 20 | 213 => 247 | 46 => 132 | 232 => 259 | 233 => 260 | n => n, fun | 17 => 4 | 18 => 7 | 19 => 8 | n => n⟩
theorem Tryz.laysM171 : Go.Proofs.LaysM.n171 Tryz.prog Tryz.laysM171_ren := {
 mixed := by kernel_rfl
 f129 := Tryz.func254.trans (congrArg some (by kernel_rfl))
 f171 := Tryz.func90.trans (congrArg some (by kernel_rfl))
 f243 := Tryz.func146.trans (congrArg some (by kernel_rfl))
 f246 := Tryz.func194.trans (congrArg some (by kernel_rfl))
 f283 := Tryz.func232.trans (congrArg some (by kernel_rfl))
 f284 := Tryz.func233.trans (congrArg some (by kernel_rfl))
 f285 := Tryz.func234.trans (congrArg some (by kernel_rfl))
 f286 := Tryz.func235.trans (congrArg some (by kernel_rfl))
 f317 := Tryz.func253.trans (congrArg some (by kernel_rfl))
 f318 := Tryz.func255.trans (congrArg some (by kernel_rfl))
 f319 := Tryz.func256.trans (congrArg some (by kernel_rfl))
 f320 := Tryz.func257.trans (congrArg some (by kernel_rfl))
 f337 := Tryz.func263.trans (congrArg some (by kernel_rfl))
 f338 := Tryz.func264.trans (congrArg some (by kernel_rfl))
 t0 := Tryz.underlying0
 a0 := Tryz.isAgg0
 z0 := Tryz.sizeOf0
 v0 := Tryz.zeroValue0
 t2 := Tryz.underlying2
 a2 := Tryz.isAgg2
 z2 := Tryz.sizeOf2
 v2 := Tryz.zeroValue2
 t3 := Tryz.underlying3
 a3 := Tryz.isAgg3
 z3 := Tryz.sizeOf3
 v3 := Tryz.zeroValue3
 t4 := Tryz.underlying4
 a4 := Tryz.isAgg4
 z4 := Tryz.sizeOf4
 v4 := Tryz.zeroValue4
 t5 := Tryz.underlying5
 a5 := Tryz.isAgg5
 z5 := Tryz.sizeOf5
 v5 := Tryz.zeroValue5
 t9 := Tryz.underlying9
 a9 := Tryz.isAgg9
 z9 := Tryz.sizeOf9
 v9 := Tryz.zeroValue9
 t20 := Tryz.underlying20
 a20 := Tryz.isAgg20
 z20 := Tryz.sizeOf20
 v20 := Tryz.zeroValue20
 t37 := Tryz.underlying29
 a37 := Tryz.isAgg29
 z37 := Tryz.sizeOf29
 v37 := Tryz.zeroValue29
 t46 := Tryz.underlying132
 a46 := Tryz.isAgg132
 z46 := Tryz.sizeOf132
 v46 := Tryz.zeroValue132
 t51 := Tryz.underlying175
 a51 := Tryz.isAgg175
 z51 := Tryz.sizeOf175
 v51 := Tryz.zeroValue175
 t53 := Tryz.underlying229
 a53 := Tryz.isAgg229
 z53 := Tryz.sizeOf229
 v53 := Tryz.zeroValue229
 t171 := Tryz.underlying228
 a171 := Tryz.isAgg228
 z171 := Tryz.sizeOf228
 v171 := Tryz.zeroValue228
 t173 := Tryz.underlying232
 a173 := Tryz.isAgg232
 z173 := Tryz.sizeOf232
 v173 := Tryz.zeroValue232
 t212 := Tryz.underlying246
 a212 := Tryz.isAgg246
 z212 := Tryz.sizeOf246
 v212 := Tryz.zeroValue246
 t213 := Tryz.underlying247
 a213 := Tryz.isAgg247
 z213 := Tryz.sizeOf247
 t232 := Tryz.underlying259
 a232 := Tryz.isAgg259
 z232 := Tryz.sizeOf259
 v232 := Tryz.zeroValue259
 t233 := Tryz.underlying260
 a233 := Tryz.isAgg260
 z233 := Tryz.sizeOf260
 v233 := Tryz.zeroValue260
 g17 := by kernel_rfl
 g18 := by kernel_rfl
 g19 := by kernel_rfl
 i0 := by kernel_rfl
 i2 := by kernel_rfl
 i3 := by kernel_rfl
 i4 := by kernel_rfl
 i5 := by kernel_rfl
 i9 := by kernel_rfl
 i20 := by kernel_rfl
 i37 := by kernel_rfl
 i46 := by kernel_rfl
 i51 := by kernel_rfl
 i53 := by kernel_rfl
 i171 := by kernel_rfl
 i173 := by kernel_rfl
 i212 := by kernel_rfl
 i232 := by kernel_rfl
 i233 := by kernel_rfl
 m17 := by kernel_rfl
 m18 := by kernel_rfl
 m19 := by kernel_rfl }
open Go.RowKit Go.Sort Go.Lib in
theorem Tryz.strconv_Itoa (n : Int) (h0 : -9223372036854775808 ≤ n) (h1 : n ≤ 9223372036854775807) (w : World) (htab : Lib.TabIs Tryz.prog w "internal/strconv.uint64pow10" .u64 Lib.pow10Tab) :
 Calls Tryz.prog 90 #[.int .i64 n] w fun e w' => e = .returned (.string ⟨(Lib.itoa n).toArray⟩) ∧ ∃ k os, w' = grow (w.drewN k) os := Any.strconv_Itoa Tryz.laysM171 n h0 h1 w htab
def Tryz.laysM251_ren : Go.Shelf.Ren := ⟨fun | 251 => 121 | n => n, fun | 130 => 160 | 3 => 3 | 4 => 4 | 0 => 0 | 93 => 107 | 37 => 29 | 91 => 105 | 5 => 5 | n => n, fun | n => n⟩
theorem Tryz.laysM251 : Go.Proofs.LaysM.n251 Tryz.prog Tryz.laysM251_ren := {
 mixed := by kernel_rfl
 f251 := Tryz.func121.trans (congrArg some (by kernel_rfl))
 t0 := Tryz.underlying0
 a0 := Tryz.isAgg0
 z0 := Tryz.sizeOf0
 v0 := Tryz.zeroValue0
 t3 := Tryz.underlying3
 a3 := Tryz.isAgg3
 z3 := Tryz.sizeOf3
 v3 := Tryz.zeroValue3
 t4 := Tryz.underlying4
 a4 := Tryz.isAgg4
 z4 := Tryz.sizeOf4
 v4 := Tryz.zeroValue4
 t37 := Tryz.underlying29
 a37 := Tryz.isAgg29
 z37 := Tryz.sizeOf29
 v37 := Tryz.zeroValue29
 t93 := Tryz.underlying107
 a93 := Tryz.isAgg107
 z93 := Tryz.sizeOf107
 v93 := Tryz.zeroValue107
 t130 := Tryz.underlying160
 a130 := Tryz.isAgg160
 z130 := Tryz.sizeOf160
 v130 := Tryz.zeroValue160
 t5 := Tryz.underlying5
 a5 := Tryz.isAgg5
 z5 := Tryz.sizeOf5
 v5 := Tryz.zeroValue5
 t91 := Tryz.underlying105
 a91 := Tryz.isAgg105
 z91 := Tryz.sizeOf105
 v91 := Tryz.zeroValue105
 i0 := by kernel_rfl
 i3 := by kernel_rfl
 i4 := by kernel_rfl
 i5 := by kernel_rfl
 i37 := by kernel_rfl
 i91 := by kernel_rfl
 i93 := by kernel_rfl
 i130 := by kernel_rfl }
open Go.RowKit in
theorem Tryz.Buffer_tryGrow_room (b : Nat) (ao : Option Addr) (l cap n : Nat) (w : World) (c0 : w.cell? ⟨b, 0, none⟩ = some (.slice ao l cap)) (f0 : w.frozen? ⟨b, 0, none⟩ = false) (hlc : l ≤ cap) (hcap : cap ≤ maxLen) (hn : n ≤ cap - l) :
 Calls Tryz.prog 121 #[.pointer (some ⟨b, 0, none⟩), .int .i64 n] w fun e w' => e = .returned (.tuple #[.int .i64 l, .bool true]) ∧ w' = w.setCell ⟨b, 0, none⟩ (.slice ao (l + n) cap) := Any.Buffer_tryGrow_room Tryz.laysM251 b ao l cap n w c0 f0 hlc hcap hn
def Tryz.laysM324_ren : Go.Shelf.Ren := ⟨fun | 324 => 203 | n => n, fun | 20 => 20 | 4 => 4 | 75 => 109 | 0 => 0 | 80 => 166 | 9 => 9 | n => n, fun | 14 => 1 | n => n⟩
def Tryz.laysM178_ren : Go.Shelf.Ren := ⟨fun | 178 => 56 | 251 => 121 | 252 => 122 | 181 => 172 | 184 => 173 | 290 => 174 | 324 => 203 | n => n, fun | 130 => 160 | 9 => 9 | 3 => 3 | 75 => 109 | 0 => 0 | 93 => 107 | 91 => 105 | 131 => 94 | 4 => 4 | 37 => 29 | 20 => 20 | 80 => 166 | 5 => 5 | n => n, fun | 14 => 1 | n => n⟩
theorem Tryz.laysM178 : Go.Proofs.LaysM.n178 Tryz.prog Tryz.laysM178_ren := {
 mixed := by kernel_rfl
 f178 := Tryz.func56.trans (congrArg some (by kernel_rfl))
 f181 := Tryz.func172.trans (congrArg some (by kernel_rfl))
 f184 := Tryz.func173.trans (congrArg some (by kernel_rfl))
 f251 := Tryz.func121.trans (congrArg some (by kernel_rfl))
 f252 := Tryz.func122.trans (congrArg some (by kernel_rfl))
 f290 := Tryz.func174.trans (congrArg some (by kernel_rfl))
 f324 := Tryz.func203.trans (congrArg some (by kernel_rfl))
 t0 := Tryz.underlying0
 a0 := Tryz.isAgg0
 z0 := Tryz.sizeOf0
 v0 := Tryz.zeroValue0
 t3 := Tryz.underlying3
 a3 := Tryz.isAgg3
 z3 := Tryz.sizeOf3
 v3 := Tryz.zeroValue3
 t4 := Tryz.underlying4
 a4 := Tryz.isAgg4
 z4 := Tryz.sizeOf4
 v4 := Tryz.zeroValue4
 t9 := Tryz.underlying9
 a9 := Tryz.isAgg9
 z9 := Tryz.sizeOf9
 v9 := Tryz.zeroValue9
 t20 := Tryz.underlying20
 a20 := Tryz.isAgg20
 z20 := Tryz.sizeOf20
 v20 := Tryz.zeroValue20
 t37 := Tryz.underlying29
 a37 := Tryz.isAgg29
 z37 := Tryz.sizeOf29
 v37 := Tryz.zeroValue29
 t75 := Tryz.underlying109
 a75 := Tryz.isAgg109
 z75 := Tryz.sizeOf109
 v75 := Tryz.zeroValue109
 t91 := Tryz.underlying105
 a91 := Tryz.isAgg105
 z91 := Tryz.sizeOf105
 v91 := Tryz.zeroValue105
 t93 := Tryz.underlying107
 a93 := Tryz.isAgg107
 z93 := Tryz.sizeOf107
 v93 := Tryz.zeroValue107
 t130 := Tryz.underlying160
 a130 := Tryz.isAgg160
 z130 := Tryz.sizeOf160
 v130 := Tryz.zeroValue160
 t131 := Tryz.underlying94
 a131 := Tryz.isAgg94
 z131 := Tryz.sizeOf94
 v131 := Tryz.zeroValue94
 g14 := by kernel_rfl
 t5 := Tryz.underlying5
 a5 := Tryz.isAgg5
 z5 := Tryz.sizeOf5
 v5 := Tryz.zeroValue5
 t80 := Tryz.underlying166
 a80 := Tryz.isAgg166
 z80 := Tryz.sizeOf166
 v80 := Tryz.zeroValue166
 i0 := by kernel_rfl
 i3 := by kernel_rfl
 i4 := by kernel_rfl
 i5 := by kernel_rfl
 i9 := by kernel_rfl
 i20 := by kernel_rfl
 i37 := by kernel_rfl
 i75 := by kernel_rfl
 i80 := by kernel_rfl
 i91 := by kernel_rfl
 i93 := by kernel_rfl
 i130 := by kernel_rfl
 i131 := by kernel_rfl
 m14 := by kernel_rfl }
open Go.RowKit in
theorem Tryz.Buffer_WriteString (B b : Nat) (bs : List Value) (s : ByteArray) (w : World) (h : Lib.IsBuffer 107 5 B b bs w) (hBw : B ≤ w.heap.size) (h1 : ∀ v ∈ bs, v.oneCell' = true) (hlim : bs.length + s.size ≤ 140737488355328) :
 Calls Tryz.prog 56 #[.pointer (some ⟨b, 0, none⟩), .string s] w fun e w' => e = .returned (.tuple #[.int .i64 s.size, .nilIface]) ∧ Lib.IsBuffer 107 5 B b (bs ++ Lib.byteCells s.data.toList) w' ∧ Below B w w' := Any.Buffer_WriteString Tryz.laysM178 B b bs s w h hBw h1 hlim
def Tryz.laysM180_ren : Go.Shelf.Ren := ⟨fun | 180 => 60 | 251 => 121 | 252 => 122 | 181 => 172 | 184 => 173 | 290 => 174 | 324 => 203 | n => n, fun | 130 => 160 | 37 => 29 | 3 => 3 | 75 => 109 | 0 => 0 | 93 => 107 | 91 => 105 | 131 => 94 | 4 => 4 | 20 => 20 | 5 => 5 | 80 => 166 | 9 => 9 | n => n, fun | 14 => 1 | n => n⟩
theorem Tryz.laysM180 : Go.Proofs.LaysM.n180 Tryz.prog Tryz.laysM180_ren := {
 mixed := by kernel_rfl
 f180 := Tryz.func60.trans (congrArg some (by kernel_rfl))
 f181 := Tryz.func172.trans (congrArg some (by kernel_rfl))
 f184 := Tryz.func173.trans (congrArg some (by kernel_rfl))
 f251 := Tryz.func121.trans (congrArg some (by kernel_rfl))
 f252 := Tryz.func122.trans (congrArg some (by kernel_rfl))
 f290 := Tryz.func174.trans (congrArg some (by kernel_rfl))
 f324 := Tryz.func203.trans (congrArg some (by kernel_rfl))
 t0 := Tryz.underlying0
 a0 := Tryz.isAgg0
 z0 := Tryz.sizeOf0
 v0 := Tryz.zeroValue0
 t3 := Tryz.underlying3
 a3 := Tryz.isAgg3
 z3 := Tryz.sizeOf3
 v3 := Tryz.zeroValue3
 t4 := Tryz.underlying4
 a4 := Tryz.isAgg4
 z4 := Tryz.sizeOf4
 v4 := Tryz.zeroValue4
 t20 := Tryz.underlying20
 a20 := Tryz.isAgg20
 z20 := Tryz.sizeOf20
 v20 := Tryz.zeroValue20
 t37 := Tryz.underlying29
 a37 := Tryz.isAgg29
 z37 := Tryz.sizeOf29
 v37 := Tryz.zeroValue29
 t75 := Tryz.underlying109
 a75 := Tryz.isAgg109
 z75 := Tryz.sizeOf109
 v75 := Tryz.zeroValue109
 t91 := Tryz.underlying105
 a91 := Tryz.isAgg105
 z91 := Tryz.sizeOf105
 v91 := Tryz.zeroValue105
 t93 := Tryz.underlying107
 a93 := Tryz.isAgg107
 z93 := Tryz.sizeOf107
 v93 := Tryz.zeroValue107
 t130 := Tryz.underlying160
 a130 := Tryz.isAgg160
 z130 := Tryz.sizeOf160
 v130 := Tryz.zeroValue160
 t131 := Tryz.underlying94
 a131 := Tryz.isAgg94
 z131 := Tryz.sizeOf94
 v131 := Tryz.zeroValue94
 g14 := by kernel_rfl
 t5 := Tryz.underlying5
 a5 := Tryz.isAgg5
 z5 := Tryz.sizeOf5
 v5 := Tryz.zeroValue5
 t9 := Tryz.underlying9
 a9 := Tryz.isAgg9
 z9 := Tryz.sizeOf9
 v9 := Tryz.zeroValue9
 t80 := Tryz.underlying166
 a80 := Tryz.isAgg166
 z80 := Tryz.sizeOf166
 v80 := Tryz.zeroValue166
 i0 := by kernel_rfl
 i3 := by kernel_rfl
 i4 := by kernel_rfl
 i5 := by kernel_rfl
 i9 := by kernel_rfl
 i20 := by kernel_rfl
 i37 := by kernel_rfl
 i75 := by kernel_rfl
 i80 := by kernel_rfl
 i91 := by kernel_rfl
 i93 := by kernel_rfl
 i130 := by kernel_rfl
 i131 := by kernel_rfl
 m14 := by kernel_rfl }
open Go.RowKit in
theorem Tryz.Buffer_Write (B b : Nat) (bs cs : List Value) (a : Addr) (n c : Nat) (w : World) (h : Lib.IsBuffer 107 5 B b bs w) (hBw : B ≤ w.heap.size) (h1 : ∀ v ∈ bs, v.oneCell' = true) (hn : cs.length = n) (haB : a.block < B) (hsrc : ∀ j v, cs[j]? = some v → w.cell? (a.add j) = some v) (h1c : ∀ v ∈ cs, v.oneCell' = true) (hlim : bs.length + n ≤ 140737488355328) :
 Calls Tryz.prog 60 #[.pointer (some ⟨b, 0, none⟩), .slice (some a) n c] w fun e w' => e = .returned (.tuple #[.int .i64 n, .nilIface]) ∧ Lib.IsBuffer 107 5 B b (bs ++ cs) w' ∧ Below B w w' := Any.Buffer_Write Tryz.laysM180 B b bs cs a n c w h hBw h1 hn haB hsrc h1c hlim
def Tryz.laysM183_ren : Go.Shelf.Ren := ⟨fun | 183 => 62 | n => n, fun | 130 => 160 | 37 => 29 | 0 => 0 | 93 => 107 | 3 => 3 | 5 => 5 | 91 => 105 | n => n, fun | n => n⟩
theorem Tryz.laysM183 : Go.Proofs.LaysM.n183 Tryz.prog Tryz.laysM183_ren := {
 mixed := by kernel_rfl
 f183 := Tryz.func62.trans (congrArg some (by kernel_rfl))
 t0 := Tryz.underlying0
 a0 := Tryz.isAgg0
 z0 := Tryz.sizeOf0
 v0 := Tryz.zeroValue0
 t3 := Tryz.underlying3
 a3 := Tryz.isAgg3
 z3 := Tryz.sizeOf3
 v3 := Tryz.zeroValue3
 t37 := Tryz.underlying29
 a37 := Tryz.isAgg29
 z37 := Tryz.sizeOf29
 v37 := Tryz.zeroValue29
 t93 := Tryz.underlying107
 a93 := Tryz.isAgg107
 z93 := Tryz.sizeOf107
 v93 := Tryz.zeroValue107
 t130 := Tryz.underlying160
 a130 := Tryz.isAgg160
 z130 := Tryz.sizeOf160
 v130 := Tryz.zeroValue160
 t5 := Tryz.underlying5
 a5 := Tryz.isAgg5
 z5 := Tryz.sizeOf5
 v5 := Tryz.zeroValue5
 t91 := Tryz.underlying105
 a91 := Tryz.isAgg105
 z91 := Tryz.sizeOf105
 v91 := Tryz.zeroValue105
 i0 := by kernel_rfl
 i3 := by kernel_rfl
 i5 := by kernel_rfl
 i37 := by kernel_rfl
 i91 := by kernel_rfl
 i93 := by kernel_rfl
 i130 := by kernel_rfl }
open Go.RowKit in
theorem Tryz.Buffer_Bytes (B b : Nat) (bs : List Value) (w : World) (h : Lib.IsBuffer 107 5 B b bs w) :
 Calls Tryz.prog 62 #[.pointer (some ⟨b, 0, none⟩)] w fun e w' => ∃ v, e = .returned v ∧ w'.ownsRow B 5 1 v bs.length bs ∧ ∃ n, w' = w.drewN n := Any.Buffer_Bytes Tryz.laysM183 B b bs w h
def Tryz.laysC172_ren : Go.Shelf.Ren := ⟨fun | 172 => 130 | 244 => 180 | 245 => 181 | 247 => 210 | 279 => 211 | 280 => 212 | 281 => 213 | 282 => 214 | 287 => 242 | 316 => 243 | 171 => 90 | 205 => 244 | 321 => 260 | 322 => 261 | 243 => 146 | 246 => 194 | 283 => 232 | 284 => 233 | 285 => 234 | 286 => 235 | 129 => 254 | 317 => 253 | 318 => 255 | 319 => 256 | 320 => 257 | 337 => 263 | 338 => 264 | n => n, fun | 9 => 9 | 3 => 3 | 75 => 109 | 76 => 110 | 4 => 4 | 5 => 5 | 167 => 212 | 37 => 29 | 0 => 0 | 85 => 213 | 2 => 2 | 168 => 215 | 53 => 229 | 175 => 235 | 46 => 132 | 210 => 238 | 127 => 189 | 145 => 253 | 143 => 251 | 21 => 21 | 171 => 228 | 173 => 232 | 212 => 246 | 51 => 175 | 20 => 20 | 213 => 247 | 232 => 259 | 233 => 260 | 80 => 166 | n => n, fun | 15 => 2 | 16 => 3 | 17 => 4 | 18 => 7 | 19 => 8 | n => n⟩
theorem Tryz.laysC172 : Go.Proofs.LaysC.n172 Tryz.prog Tryz.laysC172_ren := {
 mixed := by kernel_rfl
 f129 := Tryz.func254.trans (congrArg some (by kernel_rfl))
 f171 := Tryz.func90.trans (congrArg some (by kernel_rfl))
 f172 := Tryz.func130.trans (congrArg some (by kernel_rfl))
 f205 := Tryz.func244.trans (congrArg some (by kernel_rfl))
 f243 := Tryz.func146.trans (congrArg some (by kernel_rfl))
 f244 := Tryz.func180.trans (congrArg some (by kernel_rfl))
 f245 := Tryz.func181.trans (congrArg some (by kernel_rfl))
 f246 := Tryz.func194.trans (congrArg some (by kernel_rfl))
 f247 := Tryz.func210.trans (congrArg some (by kernel_rfl))
 f279 := Tryz.func211.trans (congrArg some (by kernel_rfl))
 f280 := Tryz.func212.trans (congrArg some (by kernel_rfl))
 f281 := Tryz.func213.trans (congrArg some (by kernel_rfl))
 f282 := Tryz.func214.trans (congrArg some (by kernel_rfl))
 f283 := Tryz.func232.trans (congrArg some (by kernel_rfl))
 f284 := Tryz.func233.trans (congrArg some (by kernel_rfl))
 f285 := Tryz.func234.trans (congrArg some (by kernel_rfl))
 f286 := Tryz.func235.trans (congrArg some (by kernel_rfl))
 f287 := Tryz.func242.trans (congrArg some (by kernel_rfl))
 f316 := Tryz.func243.trans (congrArg some (by kernel_rfl))
 f317 := Tryz.func253.trans (congrArg some (by kernel_rfl))
 f318 := Tryz.func255.trans (congrArg some (by kernel_rfl))
 f319 := Tryz.func256.trans (congrArg some (by kernel_rfl))
 f320 := Tryz.func257.trans (congrArg some (by kernel_rfl))
 f321 := Tryz.func260.trans (congrArg some (by kernel_rfl))
 f322 := Tryz.func261.trans (congrArg some (by kernel_rfl))
 f337 := Tryz.func263.trans (congrArg some (by kernel_rfl))
 f338 := Tryz.func264.trans (congrArg some (by kernel_rfl))
 t0 := Tryz.underlying0
 a0 := Tryz.isAgg0
 z0 := Tryz.sizeOf0
 v0 := Tryz.zeroValue0
 t2 := Tryz.underlying2
 a2 := Tryz.isAgg2
 z2 := Tryz.sizeOf2
 v2 := Tryz.zeroValue2
 t3 := Tryz.underlying3
 a3 := Tryz.isAgg3
 z3 := Tryz.sizeOf3
 v3 := Tryz.zeroValue3
 t4 := Tryz.underlying4
 a4 := Tryz.isAgg4
 z4 := Tryz.sizeOf4
 v4 := Tryz.zeroValue4
 t5 := Tryz.underlying5
 a5 := Tryz.isAgg5
 z5 := Tryz.sizeOf5
 v5 := Tryz.zeroValue5
 t9 := Tryz.underlying9
 a9 := Tryz.isAgg9
 z9 := Tryz.sizeOf9
 v9 := Tryz.zeroValue9
 t20 := Tryz.underlying20
 a20 := Tryz.isAgg20
 z20 := Tryz.sizeOf20
 v20 := Tryz.zeroValue20
 t21 := Tryz.underlying21
 a21 := Tryz.isAgg21
 z21 := Tryz.sizeOf21
 v21 := Tryz.zeroValue21
 t37 := Tryz.underlying29
 a37 := Tryz.isAgg29
 z37 := Tryz.sizeOf29
 v37 := Tryz.zeroValue29
 t46 := Tryz.underlying132
 a46 := Tryz.isAgg132
 z46 := Tryz.sizeOf132
 v46 := Tryz.zeroValue132
 t51 := Tryz.underlying175
 a51 := Tryz.isAgg175
 z51 := Tryz.sizeOf175
 v51 := Tryz.zeroValue175
 t53 := Tryz.underlying229
 a53 := Tryz.isAgg229
 z53 := Tryz.sizeOf229
 v53 := Tryz.zeroValue229
 t75 := Tryz.underlying109
 a75 := Tryz.isAgg109
 z75 := Tryz.sizeOf109
 v75 := Tryz.zeroValue109
 t76 := Tryz.underlying110
 a76 := Tryz.isAgg110
 z76 := Tryz.sizeOf110
 v76 := Tryz.zeroValue110
 t85 := Tryz.underlying213
 a85 := Tryz.isAgg213
 z85 := Tryz.sizeOf213
 v85 := Tryz.zeroValue213
 t127 := Tryz.underlying189
 a127 := Tryz.isAgg189
 z127 := Tryz.sizeOf189
 v127 := Tryz.zeroValue189
 t143 := Tryz.underlying251
 a143 := Tryz.isAgg251
 z143 := Tryz.sizeOf251
 v143 := Tryz.zeroValue251
 t145 := Tryz.underlying253
 a145 := Tryz.isAgg253
 z145 := Tryz.sizeOf253
 v145 := Tryz.zeroValue253
 t167 := Tryz.underlying212
 a167 := Tryz.isAgg212
 z167 := Tryz.sizeOf212
 v167 := Tryz.zeroValue212
 t168 := Tryz.underlying215
 a168 := Tryz.isAgg215
 z168 := Tryz.sizeOf215
 v168 := Tryz.zeroValue215
 t171 := Tryz.underlying228
 a171 := Tryz.isAgg228
 z171 := Tryz.sizeOf228
 v171 := Tryz.zeroValue228
 t173 := Tryz.underlying232
 a173 := Tryz.isAgg232
 z173 := Tryz.sizeOf232
 v173 := Tryz.zeroValue232
 t175 := Tryz.underlying235
 a175 := Tryz.isAgg235
 z175 := Tryz.sizeOf235
 v175 := Tryz.zeroValue235
 t210 := Tryz.underlying238
 a210 := Tryz.isAgg238
 z210 := Tryz.sizeOf238
 v210 := Tryz.zeroValue238
 t212 := Tryz.underlying246
 a212 := Tryz.isAgg246
 z212 := Tryz.sizeOf246
 v212 := Tryz.zeroValue246
 t213 := Tryz.underlying247
 a213 := Tryz.isAgg247
 z213 := Tryz.sizeOf247
 t232 := Tryz.underlying259
 a232 := Tryz.isAgg259
 z232 := Tryz.sizeOf259
 v232 := Tryz.zeroValue259
 t233 := Tryz.underlying260
 a233 := Tryz.isAgg260
 z233 := Tryz.sizeOf260
 v233 := Tryz.zeroValue260
 g15 := by kernel_rfl
 g16 := by kernel_rfl
 g17 := by kernel_rfl
 g18 := by kernel_rfl
 g19 := by kernel_rfl
 t80 := Tryz.underlying166
 a80 := Tryz.isAgg166
 z80 := Tryz.sizeOf166
 v80 := Tryz.zeroValue166
 i0 := by kernel_rfl
 i2 := by kernel_rfl
 i3 := by kernel_rfl
 i4 := by kernel_rfl
 i5 := by kernel_rfl
 i9 := by kernel_rfl
 i20 := by kernel_rfl
 i21 := by kernel_rfl
 i37 := by kernel_rfl
 i46 := by kernel_rfl
 i51 := by kernel_rfl
 i53 := by kernel_rfl
 i75 := by kernel_rfl
 i76 := by kernel_rfl
 i80 := by kernel_rfl
 i85 := by kernel_rfl
 i127 := by kernel_rfl
 i143 := by kernel_rfl
 i145 := by kernel_rfl
 i167 := by kernel_rfl
 i168 := by kernel_rfl
 i171 := by kernel_rfl
 i173 := by kernel_rfl
 i175 := by kernel_rfl
 i210 := by kernel_rfl
 i212 := by kernel_rfl
 i232 := by kernel_rfl
 i233 := by kernel_rfl
 m15 := by kernel_rfl
 m16 := by kernel_rfl
 m17 := by kernel_rfl
 m18 := by kernel_rfl
 m19 := by kernel_rfl
 c0 := by kernel_rfl
 c2 := by kernel_rfl
 c3 := by kernel_rfl
 c4 := by kernel_rfl
 c5 := by kernel_rfl
 c9 := by kernel_rfl
 c20 := by kernel_rfl
 c21 := by kernel_rfl
 c37 := by kernel_rfl
 c46 := by kernel_rfl
 c51 := by kernel_rfl
 c53 := by kernel_rfl
 c75 := by kernel_rfl
 c76 := by kernel_rfl
 c80 := by kernel_rfl
 c85 := by kernel_rfl
 c127 := by kernel_rfl
 c143 := by kernel_rfl
 c145 := by kernel_rfl
 c167 := by kernel_rfl
 c168 := by kernel_rfl
 c171 := by kernel_rfl
 c173 := by kernel_rfl
 c175 := by kernel_rfl
 c210 := by kernel_rfl
 c212 := by kernel_rfl
 c213 := by kernel_rfl
 c232 := by kernel_rfl
 c233 := by kernel_rfl }
open Go.RowKit in
theorem Tryz.strconv_Atoi_ok (s : ByteArray) (hmax : s.size ≤ 9223372036854775806) (v : Int) (h : Lib.atoiAll s.data.toList = .ok v) (w : World) :
 Calls Tryz.prog 130 #[.string s] w fun e w' => e = .returned (.tuple #[.int .i64 v, .nilIface]) ∧ (w' = w ∨ ∃ t, w' = Lib.bytesWorld w 5 t) := Any.strconv_Atoi_ok Tryz.laysC172 s hmax v h w
open Go.RowKit in
open Go.RowKit in
theorem Tryz.strconv_Atoi_range (s : ByteArray) (hlim : s.size ≤ 281474976710656) (h : Lib.atoiAll s.data.toList = .range) (ev : Value) (w : World) (hv : w.cell? ⟨3, 0, none⟩ = some ev) (hev : ev = .nilIface ∨ ∃ te pe, ev = .iface te pe) :
 Calls Tryz.prog 130 #[.string s] w fun e w' => ∃ N, e = .returned (.tuple #[.int .i64 (Lib.atoiSat s.data.toList), .iface 215 (.pointer (some ⟨N, 0, none⟩))]) ∧ w.heap.size ≤ N ∧ w'.heap[N]? = some (.cells #[.string ⟨#[65, 116, 111, 105]⟩, .string s, ev] 238 (0, 0)) ∧ Below w.heap.size w w' := Any.strconv_Atoi_range Tryz.laysC172 s hlim h ev w hv hev
def Tryz.lays219_ren : Go.Shelf.Ren := ⟨fun | 219 => 195 | 217 => 236 | 225 => 230 | 224 => 96 | 267 => 237 | 266 => 225 | 314 => 258 | n => n, fun | 9 => 9 | 3 => 3 | 4 => 4 | 5 => 5 | 46 => 132 | 146 => 176 | 51 => 175 | n => n, fun | 1 => 0 | n => n⟩
def Tryz.lays145_ren : Go.Shelf.Ren := ⟨fun | 145 => 102 | 220 => 157 | 219 => 195 | 217 => 236 | 225 => 230 | 224 => 96 | 267 => 237 | 266 => 225 | 314 => 258 | n => n, fun | 9 => 9 | 4 => 4 | 59 => 137 | 3 => 3 | 5 => 5 | 46 => 132 | 146 => 176 | 51 => 175 | n => n, fun | 1 => 0 | n => n⟩
theorem Tryz.lays145 : Go.Proofs.Lays.n145 Tryz.prog Tryz.lays145_ren := {
 mixed := by kernel_rfl
 f145 := Tryz.func102.trans (congrArg some (by kernel_rfl))
 f217 := Tryz.func236.trans (congrArg some (by kernel_rfl))
 f219 := Tryz.func195.trans (congrArg some (by kernel_rfl))
 f220 := Tryz.func157.trans (congrArg some (by kernel_rfl))
 f224 := Tryz.func96.trans (congrArg some (by kernel_rfl))
 f225 := Tryz.func230.trans (congrArg some (by kernel_rfl))
 f266 := Tryz.func225.trans (congrArg some (by kernel_rfl))
 f267 := Tryz.func237.trans (congrArg some (by kernel_rfl))
 f314 := Tryz.func258.trans (congrArg some (by kernel_rfl))
 t3 := Tryz.underlying3
 a3 := Tryz.isAgg3
 z3 := Tryz.sizeOf3
 v3 := Tryz.zeroValue3
 t4 := Tryz.underlying4
 a4 := Tryz.isAgg4
 z4 := Tryz.sizeOf4
 v4 := Tryz.zeroValue4
 t5 := Tryz.underlying5
 a5 := Tryz.isAgg5
 z5 := Tryz.sizeOf5
 v5 := Tryz.zeroValue5
 t9 := Tryz.underlying9
 a9 := Tryz.isAgg9
 z9 := Tryz.sizeOf9
 v9 := Tryz.zeroValue9
 t46 := Tryz.underlying132
 a46 := Tryz.isAgg132
 z46 := Tryz.sizeOf132
 v46 := Tryz.zeroValue132
 t51 := Tryz.underlying175
 a51 := Tryz.isAgg175
 z51 := Tryz.sizeOf175
 v51 := Tryz.zeroValue175
 t59 := Tryz.underlying137
 a59 := Tryz.isAgg137
 z59 := Tryz.sizeOf137
 v59 := Tryz.zeroValue137
 t146 := Tryz.underlying176
 a146 := Tryz.isAgg176
 z146 := Tryz.sizeOf176
 v146 := Tryz.zeroValue176
 g1 := by kernel_rfl }
open Go.RowKit Go.Lib in
theorem Tryz.strings_Cut (s sep : ByteArray) (m : Int) (w : World) (hs : s.size < 4294967281) (hm : w.cell? ⟨0, 0, none⟩ = some (.int .i64 m)) :
 Calls Tryz.prog 102 #[.string s, .string sep] w fun e w' => e = .returned (.tuple #[.string ⟨(Lib.cut s.data.toList sep.data.toList).1.toArray⟩, .string ⟨(Lib.cut s.data.toList sep.data.toList).2.1.toArray⟩, .bool (Lib.cut s.data.toList sep.data.toList).2.2]) ∧ ∃ n, w' = w.drewN n := Any.strings_Cut Tryz.lays145 s sep m w hs hm
def Tryz.lays206_ren : Go.Shelf.Ren := ⟨fun | 206 => 149 | n => n, fun | 9 => 9 | 4 => 4 | 3 => 3 | n => n, fun | n => n⟩
def Tryz.lays99_ren : Go.Shelf.Ren := ⟨fun | 99 => 98 | 206 => 149 | n => n, fun | 9 => 9 | 4 => 4 | 3 => 3 | n => n, fun | n => n⟩
theorem Tryz.lays99 : Go.Proofs.Lays.n99 Tryz.prog Tryz.lays99_ren := {
 mixed := by kernel_rfl
 f99 := Tryz.func98.trans (congrArg some (by kernel_rfl))
 f206 := Tryz.func149.trans (congrArg some (by kernel_rfl))
 t3 := Tryz.underlying3
 a3 := Tryz.isAgg3
 z3 := Tryz.sizeOf3
 v3 := Tryz.zeroValue3
 t4 := Tryz.underlying4
 a4 := Tryz.isAgg4
 z4 := Tryz.sizeOf4
 v4 := Tryz.zeroValue4
 t9 := Tryz.underlying9
 a9 := Tryz.isAgg9
 z9 := Tryz.sizeOf9
 v9 := Tryz.zeroValue9 }
open Go.RowKit Go.Lib in
theorem Tryz.strings_HasPrefix (s p : ByteArray) (w : World) :
 Calls Tryz.prog 98 #[.string s, .string p] w fun e w' => e = .returned (.bool (Lib.hasPrefix s.data.toList p.data.toList)) ∧ w' = w := Any.strings_HasPrefix Tryz.lays99 s p w
def Tryz.lays221_ren : Go.Shelf.Ren := ⟨fun | 221 => 179 | 268 => 207 | 138 => 208 | 143 => 209 | 195 => 240 | 197 => 220 | 218 => 241 | 219 => 195 | 260 => 245 | 217 => 236 | 225 => 230 | 224 => 96 | 267 => 237 | 266 => 225 | 314 => 258 | n => n, fun | 9 => 9 | 3 => 3 | 31 => 45 | 4 => 4 | 0 => 0 | 105 => 219 | 21 => 21 | 5 => 5 | 46 => 132 | 119 => 254 | 139 => 257 | 138 => 256 | 146 => 176 | 51 => 175 | n => n, fun | 1 => 0 | 3 => 5 | 4 => 6 | n => n⟩
def Tryz.lays146_ren : Go.Shelf.Ren := ⟨fun | 146 => 129 | 221 => 179 | 268 => 207 | 138 => 208 | 143 => 209 | 195 => 240 | 197 => 220 | 218 => 241 | 219 => 195 | 260 => 245 | 217 => 236 | 225 => 230 | 224 => 96 | 267 => 237 | 266 => 225 | 314 => 258 | n => n, fun | 9 => 9 | 31 => 45 | 3 => 3 | 4 => 4 | 0 => 0 | 105 => 219 | 21 => 21 | 5 => 5 | 46 => 132 | 119 => 254 | 139 => 257 | 138 => 256 | 146 => 176 | 51 => 175 | n => n, fun | 1 => 0 | 3 => 5 | 4 => 6 | n => n⟩
theorem Tryz.lays146 : Go.Proofs.Lays.n146 Tryz.prog Tryz.lays146_ren := {
 mixed := by kernel_rfl
 f138 := Tryz.func208.trans (congrArg some (by kernel_rfl))
 f143 := Tryz.func209.trans (congrArg some (by kernel_rfl))
 f146 := Tryz.func129.trans (congrArg some (by kernel_rfl))
 f195 := Tryz.func240.trans (congrArg some (by kernel_rfl))
 f197 := Tryz.func220.trans (congrArg some (by kernel_rfl))
 f217 := Tryz.func236.trans (congrArg some (by kernel_rfl))
 f218 := Tryz.func241.trans (congrArg some (by kernel_rfl))
 f219 := Tryz.func195.trans (congrArg some (by kernel_rfl))
 f221 := Tryz.func179.trans (congrArg some (by kernel_rfl))
 f224 := Tryz.func96.trans (congrArg some (by kernel_rfl))
 f225 := Tryz.func230.trans (congrArg some (by kernel_rfl))
 f260 := Tryz.func245.trans (congrArg some (by kernel_rfl))
 f266 := Tryz.func225.trans (congrArg some (by kernel_rfl))
 f267 := Tryz.func237.trans (congrArg some (by kernel_rfl))
 f268 := Tryz.func207.trans (congrArg some (by kernel_rfl))
 f314 := Tryz.func258.trans (congrArg some (by kernel_rfl))
 t0 := Tryz.underlying0
 a0 := Tryz.isAgg0
 z0 := Tryz.sizeOf0
 v0 := Tryz.zeroValue0
 t3 := Tryz.underlying3
 a3 := Tryz.isAgg3
 z3 := Tryz.sizeOf3
 v3 := Tryz.zeroValue3
 t4 := Tryz.underlying4
 a4 := Tryz.isAgg4
 z4 := Tryz.sizeOf4
 v4 := Tryz.zeroValue4
 t5 := Tryz.underlying5
 a5 := Tryz.isAgg5
 z5 := Tryz.sizeOf5
 v5 := Tryz.zeroValue5
 t9 := Tryz.underlying9
 a9 := Tryz.isAgg9
 z9 := Tryz.sizeOf9
 v9 := Tryz.zeroValue9
 t21 := Tryz.underlying21
 a21 := Tryz.isAgg21
 z21 := Tryz.sizeOf21
 v21 := Tryz.zeroValue21
 t31 := Tryz.underlying45
 a31 := Tryz.isAgg45
 z31 := Tryz.sizeOf45
 v31 := Tryz.zeroValue45
 t46 := Tryz.underlying132
 a46 := Tryz.isAgg132
 z46 := Tryz.sizeOf132
 v46 := Tryz.zeroValue132
 t51 := Tryz.underlying175
 a51 := Tryz.isAgg175
 z51 := Tryz.sizeOf175
 v51 := Tryz.zeroValue175
 t105 := Tryz.underlying219
 a105 := Tryz.isAgg219
 z105 := Tryz.sizeOf219
 v105 := Tryz.zeroValue219
 t119 := Tryz.underlying254
 a119 := Tryz.isAgg254
 z119 := Tryz.sizeOf254
 t138 := Tryz.underlying256
 a138 := Tryz.isAgg256
 z138 := Tryz.sizeOf256
 v138 := Tryz.zeroValue256
 t139 := Tryz.underlying257
 a139 := Tryz.isAgg257
 z139 := Tryz.sizeOf257
 v139 := Tryz.zeroValue257
 t146 := Tryz.underlying176
 a146 := Tryz.isAgg176
 z146 := Tryz.sizeOf176
 v146 := Tryz.zeroValue176
 g1 := by kernel_rfl
 g3 := by kernel_rfl
 g4 := by kernel_rfl }
open Go.RowKit Go.Lib in
theorem Tryz.strings_Split (s sep : ByteArray) (m : Int) (w : World) (hs : s.size < 4294967281) (hm : w.cell? ⟨0, 0, none⟩ = some (.int .i64 m)) (h1 : 1 ≤ sep.size) :
 Calls Tryz.prog 129 #[.string s, .string sep] w fun e w' =>
  e = .returned (.slice (some ⟨w.heap.size, 0, none⟩) (Lib.countB s sep + 1) (Lib.countB s sep + 1)) ∧ w' = w.alloc (.cells ((Lib.splitB sep 0 (Lib.countB s sep) s).map Value.string).toArray 9) := Any.strings_Split Tryz.lays146 (by kernel_rfl) s sep m w hs hm h1
def Tryz.lays185_ren : Go.Shelf.Ren := ⟨fun | 185 => 39 | 187 => 94 | 115 => 49 | 253 => 95 | 224 => 96 | 254 => 97 | 255 => 147 | 291 => 148 | n => n, fun | 37 => 29 | 3 => 3 | 4 => 4 | 0 => 0 | 5 => 5 | 46 => 132 | 9 => 9 | 146 => 176 | 51 => 175 | n => n, fun | 1 => 0 | n => n⟩
theorem Tryz.lays185 : Go.Proofs.Lays.n185 Tryz.prog Tryz.lays185_ren := {
 mixed := by kernel_rfl
 f115 := Tryz.func49.trans (congrArg some (by kernel_rfl))
 f185 := Tryz.func39.trans (congrArg some (by kernel_rfl))
 f187 := Tryz.func94.trans (congrArg some (by kernel_rfl))
 f224 := Tryz.func96.trans (congrArg some (by kernel_rfl))
 f253 := Tryz.func95.trans (congrArg some (by kernel_rfl))
 f254 := Tryz.func97.trans (congrArg some (by kernel_rfl))
 f255 := Tryz.func147.trans (congrArg some (by kernel_rfl))
 f291 := Tryz.func148.trans (congrArg some (by kernel_rfl))
 t0 := Tryz.underlying0
 a0 := Tryz.isAgg0
 z0 := Tryz.sizeOf0
 v0 := Tryz.zeroValue0
 t3 := Tryz.underlying3
 a3 := Tryz.isAgg3
 z3 := Tryz.sizeOf3
 v3 := Tryz.zeroValue3
 t4 := Tryz.underlying4
 a4 := Tryz.isAgg4
 z4 := Tryz.sizeOf4
 v4 := Tryz.zeroValue4
 t5 := Tryz.underlying5
 a5 := Tryz.isAgg5
 z5 := Tryz.sizeOf5
 v5 := Tryz.zeroValue5
 t9 := Tryz.underlying9
 a9 := Tryz.isAgg9
 z9 := Tryz.sizeOf9
 v9 := Tryz.zeroValue9
 t37 := Tryz.underlying29
 a37 := Tryz.isAgg29
 z37 := Tryz.sizeOf29
 v37 := Tryz.zeroValue29
 t46 := Tryz.underlying132
 a46 := Tryz.isAgg132
 z46 := Tryz.sizeOf132
 v46 := Tryz.zeroValue132
 t51 := Tryz.underlying175
 a51 := Tryz.isAgg175
 z51 := Tryz.sizeOf175
 v51 := Tryz.zeroValue175
 t146 := Tryz.underlying176
 a146 := Tryz.isAgg176
 z146 := Tryz.sizeOf176
 v146 := Tryz.zeroValue176
 g1 := by kernel_rfl }
def Tryz.lays186_ren : Go.Shelf.Ren := ⟨fun | 186 => 93 | 185 => 39 | 187 => 94 | 115 => 49 | 253 => 95 | 224 => 96 | 254 => 97 | 255 => 147 | 291 => 148 | n => n, fun | 37 => 29 | 4 => 4 | 3 => 3 | 0 => 0 | 5 => 5 | 46 => 132 | 9 => 9 | 146 => 176 | 51 => 175 | n => n, fun | 1 => 0 | n => n⟩
theorem Tryz.lays186 : Go.Proofs.Lays.n186 Tryz.prog Tryz.lays186_ren := {
 mixed := by kernel_rfl
 f115 := Tryz.func49.trans (congrArg some (by kernel_rfl))
 f185 := Tryz.func39.trans (congrArg some (by kernel_rfl))
 f186 := Tryz.func93.trans (congrArg some (by kernel_rfl))
 f187 := Tryz.func94.trans (congrArg some (by kernel_rfl))
 f224 := Tryz.func96.trans (congrArg some (by kernel_rfl))
 f253 := Tryz.func95.trans (congrArg some (by kernel_rfl))
 f254 := Tryz.func97.trans (congrArg some (by kernel_rfl))
 f255 := Tryz.func147.trans (congrArg some (by kernel_rfl))
 f291 := Tryz.func148.trans (congrArg some (by kernel_rfl))
 t0 := Tryz.underlying0
 a0 := Tryz.isAgg0
 z0 := Tryz.sizeOf0
 v0 := Tryz.zeroValue0
 t3 := Tryz.underlying3
 a3 := Tryz.isAgg3
 z3 := Tryz.sizeOf3
 v3 := Tryz.zeroValue3
 t4 := Tryz.underlying4
 a4 := Tryz.isAgg4
 z4 := Tryz.sizeOf4
 v4 := Tryz.zeroValue4
 t5 := Tryz.underlying5
 a5 := Tryz.isAgg5
 z5 := Tryz.sizeOf5
 v5 := Tryz.zeroValue5
 t9 := Tryz.underlying9
 a9 := Tryz.isAgg9
 z9 := Tryz.sizeOf9
 v9 := Tryz.zeroValue9
 t37 := Tryz.underlying29
 a37 := Tryz.isAgg29
 z37 := Tryz.sizeOf29
 v37 := Tryz.zeroValue29
 t46 := Tryz.underlying132
 a46 := Tryz.isAgg132
 z46 := Tryz.sizeOf132
 v46 := Tryz.zeroValue132
 t51 := Tryz.underlying175
 a51 := Tryz.isAgg175
 z51 := Tryz.sizeOf175
 v51 := Tryz.zeroValue175
 t146 := Tryz.underlying176
 a146 := Tryz.isAgg176
 z146 := Tryz.sizeOf176
 v146 := Tryz.zeroValue176
 g1 := by kernel_rfl }
def Tryz.laysSlB13_ren : Go.Shelf.Ren := ⟨fun | 13 => 223 | 24 => 248 | 25 => 249 | 12 => 39 | 31 => 240 | 19 => 94 | 20 => 49 | 21 => 95 | 22 => 96 | 23 => 97 | 29 => 147 | 30 => 148 | n => n, fun | 22 => 29 | 3 => 3 | 4 => 4 | 0 => 0 | 5 => 5 | 9 => 9 | 33 => 132 | 40 => 176 | 39 => 175 | n => n, fun | 0 => 0 | n => n⟩
open Go.Proofs Go.RowKit Go.Lib in
theorem Tryz.bytes_Index_at (a1 a2 : Addr) (n c1 k c2 : Nat) (xs ys : List Int) (m : Int) (w : World) (hx : xs.length = n) (hy : ys.length = k) (hr1 : ∀ x ∈ xs, 0 ≤ x ∧ x < 256) (hr2 : ∀ y ∈ ys, 0 ≤ y ∧ y < 256) (hc1 : ∀ i, i < n → w.cell? (a1.add i) = some (.int .u8 (xs.getD i 0))) (hc2 : ∀ i, i < k → w.cell? (a2.add i) = some (.int .u8 (ys.getD i 0))) (hcap : n ≤ c1) (hs : n < 4294967281) (hk : k ≤ 9223372036854775807) (hm : w.cell? ⟨0, 0, none⟩ = some (.int .i64 m)) :
 Calls Tryz.prog 39 #[.slice (some a1) n c1, .slice (some a2) k c2] w fun e w' => e = .returned (.int .i64 (Lib.index (Lib.bytesOf xs) (Lib.bytesOf ys))) ∧ ∃ q, w' = w.drewN q := Any.bytes_Index_at Tryz.lays185 a1 a2 n c1 k c2 xs ys m w hx hy hr1 hr2 hc1 hc2 hcap hs hk hm
open Go.Proofs Go.RowKit Go.Lib in
theorem Tryz.bytes_Index_nil (p2 : Option Addr) (k c2 : Nat) (w : World) (hk : k ≤ 9223372036854775807) (h1 : k = 1 → ∃ b2 o2 cv, p2 = some ⟨b2, o2, none⟩ ∧ w.cell? ⟨b2, o2, none⟩ = some (.int .u8 cv)) :
 Calls Tryz.prog 39 #[.slice none 0 0, .slice p2 k c2] w fun e w' => e = .returned (.int .i64 (if k = 0 then 0 else -1)) ∧ w' = w := Any.bytes_Index_nil Tryz.lays185 p2 k c2 w hk h1
open Go.Proofs Go.RowKit Go.Lib in
theorem Tryz.bytes_Contains_at (a1 a2 : Addr) (n c1 k c2 : Nat) (xs ys : List Int) (m : Int) (w : World) (hx : xs.length = n) (hy : ys.length = k) (hr1 : ∀ x ∈ xs, 0 ≤ x ∧ x < 256) (hr2 : ∀ y ∈ ys, 0 ≤ y ∧ y < 256) (hc1 : ∀ i, i < n → w.cell? (a1.add i) = some (.int .u8 (xs.getD i 0))) (hc2 : ∀ i, i < k → w.cell? (a2.add i) = some (.int .u8 (ys.getD i 0))) (hcap : n ≤ c1) (hs : n < 4294967281) (hk : k ≤ 9223372036854775807) (hm : w.cell? ⟨0, 0, none⟩ = some (.int .i64 m)) :
 Calls Tryz.prog 93 #[.slice (some a1) n c1, .slice (some a2) k c2] w fun e w' => e = .returned (.bool (Lib.contains (Lib.bytesOf xs) (Lib.bytesOf ys))) ∧ ∃ q, w' = w.drewN q := Any.bytes_Contains_at Tryz.lays186 a1 a2 n c1 k c2 xs ys m w hx hy hr1 hr2 hc1 hc2 hcap hs hk hm
open Go.Proofs Go.RowKit Go.Lib in
theorem Tryz.bytes_Contains_nil (p2 : Option Addr) (k c2 : Nat) (w : World) (hk : k ≤ 9223372036854775807) (h1 : k = 1 → ∃ b2 o2 cv, p2 = some ⟨b2, o2, none⟩ ∧ w.cell? ⟨b2, o2, none⟩ = some (.int .u8 cv)) :
 Calls Tryz.prog 93 #[.slice none 0 0, .slice p2 k c2] w fun e w' => e = .returned (.bool (decide (k = 0))) ∧ w' = w := Any.bytes_Contains_nil Tryz.lays186 p2 k c2 w hk h1
def Tryz.laysSlC13_ren : Go.Shelf.Ren := ⟨fun | 13 => 223 | 24 => 248 | 25 => 249 | 12 => 39 | 31 => 240 | 19 => 94 | 20 => 49 | 21 => 95 | 22 => 96 | 23 => 97 | 29 => 147 | 30 => 148 | n => n, fun | 22 => 29 | 3 => 3 | 4 => 4 | 0 => 0 | 5 => 5 | 9 => 9 | 33 => 132 | 40 => 176 | 39 => 175 | n => n, fun | 0 => 0 | n => n⟩
theorem Tryz.laysSlC13 : Go.Proofs.SlLaysC.n13 Tryz.prog Tryz.laysSlC13_ren := {
 mixed := by kernel_rfl
 f12 := Tryz.func39.trans (congrArg some (by kernel_rfl))
 f13 := Tryz.func223.trans (congrArg some (by kernel_rfl))
 f19 := Tryz.func94.trans (congrArg some (by kernel_rfl))
 f20 := Tryz.func49.trans (congrArg some (by kernel_rfl))
 f21 := Tryz.func95.trans (congrArg some (by kernel_rfl))
 f22 := Tryz.func96.trans (congrArg some (by kernel_rfl))
 f23 := Tryz.func97.trans (congrArg some (by kernel_rfl))
 f25 := Tryz.func249.trans (congrArg some (by kernel_rfl))
 f29 := Tryz.func147.trans (congrArg some (by kernel_rfl))
 f30 := Tryz.func148.trans (congrArg some (by kernel_rfl))
 t0 := Tryz.underlying0
 a0 := Tryz.isAgg0
 z0 := Tryz.sizeOf0
 v0 := Tryz.zeroValue0
 t3 := Tryz.underlying3
 a3 := Tryz.isAgg3
 z3 := Tryz.sizeOf3
 v3 := Tryz.zeroValue3
 t4 := Tryz.underlying4
 a4 := Tryz.isAgg4
 z4 := Tryz.sizeOf4
 v4 := Tryz.zeroValue4
 t5 := Tryz.underlying5
 a5 := Tryz.isAgg5
 z5 := Tryz.sizeOf5
 v5 := Tryz.zeroValue5
 t9 := Tryz.underlying9
 a9 := Tryz.isAgg9
 z9 := Tryz.sizeOf9
 v9 := Tryz.zeroValue9
 t22 := Tryz.underlying29
 a22 := Tryz.isAgg29
 z22 := Tryz.sizeOf29
 v22 := Tryz.zeroValue29
 t33 := Tryz.underlying132
 a33 := Tryz.isAgg132
 z33 := Tryz.sizeOf132
 v33 := Tryz.zeroValue132
 t39 := Tryz.underlying175
 a39 := Tryz.isAgg175
 z39 := Tryz.sizeOf175
 v39 := Tryz.zeroValue175
 t40 := Tryz.underlying176
 a40 := Tryz.isAgg176
 z40 := Tryz.sizeOf176
 v40 := Tryz.zeroValue176
 g0 := by kernel_rfl }
open Go.RowKit Go.Lib in
theorem Tryz.bytes_Count_at (a1 a2 : Addr) (n c1 k c2 : Nat) (xs ys : List Int) (m : Int) (w : World) (hx : xs.length = n) (hy : ys.length = k) (hr1 : ∀ x ∈ xs, 0 ≤ x ∧ x < 256) (hr2 : ∀ y ∈ ys, 0 ≤ y ∧ y < 256) (hc1 : ∀ i, i < n → w.cell? (a1.add i) = some (.int .u8 (xs.getD i 0))) (hc2 : ∀ i, i < k → w.cell? (a2.add i) = some (.int .u8 (ys.getD i 0))) (hcap : n ≤ c1) (hs : n < 4294967281) (hk : k ≤ 9223372036854775807) (h2 : 2 ≤ k) (hm : w.cell? ⟨0, 0, none⟩ = some (.int .i64 m)) :
 Calls Tryz.prog 223 #[.slice (some a1) n c1, .slice (some a2) k c2] w fun e w' => e = .returned (.int .i64 (Lib.count (Lib.bytesOf xs) (Lib.bytesOf ys))) ∧ ∃ q, w' = w.drewN q := Any.bytes_Count_at Tryz.laysSlC13 a1 a2 n c1 k c2 xs ys m w hx hy hr1 hr2 hc1 hc2 hcap hs hk h2 hm
open Go.RowKit Go.Lib in
theorem Tryz.bytes_Count_nil (p2 : Option Addr) (k c2 : Nat) (w : World) (h2 : 2 ≤ k) (hk : k ≤ 9223372036854775807) :
 Calls Tryz.prog 223 #[.slice none 0 0, .slice p2 k c2] w fun e w' => e = .returned (.int .i64 0) ∧ w' = w := Any.bytes_Count_nil Tryz.laysSlC13 p2 k c2 w h2 hk
def Tryz.laysSlK4_ren : Go.Shelf.Ren := ⟨fun | 4 => 44 | n => n, fun | 22 => 29 | 4 => 4 | 5 => 5 | n => n, fun | n => n⟩
theorem Tryz.laysSlK4 : Go.Proofs.SlLaysK.n4 Tryz.prog Tryz.laysSlK4_ren := {
 mixed := by kernel_rfl
 f4 := Tryz.func44.trans (congrArg some (by kernel_rfl))
 t4 := Tryz.underlying4
 a4 := Tryz.isAgg4
 z4 := Tryz.sizeOf4
 v4 := Tryz.zeroValue4
 t22 := Tryz.underlying29
 a22 := Tryz.isAgg29
 z22 := Tryz.sizeOf29
 v22 := Tryz.zeroValue29
 t5 := Tryz.underlying5
 i5 := by kernel_rfl }
open Go.RowKit Go.Lib in
theorem Tryz.bytes_Clone_at (a : Addr) (n c : Nat) (xs : List Int) (w : World) (hx : xs.length = n) (hbig : n ≤ 140737488355328) (hc : ∀ i, i < n → w.cell? (a.add i) = some (.int .u8 (xs.getD i 0))) :
 Calls Tryz.prog 44 #[.slice (some a) n c] w fun e w' => ∃ v', e = .returned v' ∧ w'.ownsRow w.heap.size 5 1 v' n (xs.map (Value.int .u8)) ∧ v' ≠ .slice none 0 0 ∧ Below w.heap.size w w' := Any.bytes_Clone_at Tryz.laysSlK4 a n c xs w hx hbig hc
open Go.RowKit Go.Lib in
theorem Tryz.bytes_Clone_nil (n c : Nat) (w : World) :
 Calls Tryz.prog 44 #[.slice none n c] w fun e w' => e = .returned (.slice none 0 0) ∧ w' = w := Any.bytes_Clone_nil Tryz.laysSlK4 n c w
def Tryz.laysnb116_ren : Go.Shelf.Ren := ⟨fun | 116 => 92 | 115 => 49 | n => n, fun | 37 => 29 | 4 => 4 | 3 => 3 | 9 => 9 | 5 => 5 | n => n, fun | n => n⟩
theorem Tryz.laysnb116 : Go.Proofs.Lays.nb116 Tryz.prog Tryz.laysnb116_ren := {
 mixed := by kernel_rfl
 f115 := Tryz.func49.trans (congrArg some (by kernel_rfl))
 f116 := Tryz.func92.trans (congrArg some (by kernel_rfl))
 t3 := Tryz.underlying3
 a3 := Tryz.isAgg3
 z3 := Tryz.sizeOf3
 v3 := Tryz.zeroValue3
 t4 := Tryz.underlying4
 a4 := Tryz.isAgg4
 z4 := Tryz.sizeOf4
 v4 := Tryz.zeroValue4
 t9 := Tryz.underlying9
 a9 := Tryz.isAgg9
 z9 := Tryz.sizeOf9
 v9 := Tryz.zeroValue9
 t37 := Tryz.underlying29
 a37 := Tryz.isAgg29
 z37 := Tryz.sizeOf29
 v37 := Tryz.zeroValue29
 t5 := Tryz.underlying5
 a5 := Tryz.isAgg5
 z5 := Tryz.sizeOf5
 v5 := Tryz.zeroValue5 }
def Tryz.laysnb117_ren : Go.Shelf.Ren := ⟨fun | 117 => 138 | 115 => 49 | n => n, fun | 37 => 29 | 4 => 4 | 3 => 3 | 9 => 9 | 5 => 5 | n => n, fun | n => n⟩
theorem Tryz.laysnb117 : Go.Proofs.Lays.nb117 Tryz.prog Tryz.laysnb117_ren := {
 mixed := by kernel_rfl
 f115 := Tryz.func49.trans (congrArg some (by kernel_rfl))
 f117 := Tryz.func138.trans (congrArg some (by kernel_rfl))
 t3 := Tryz.underlying3
 a3 := Tryz.isAgg3
 z3 := Tryz.sizeOf3
 v3 := Tryz.zeroValue3
 t4 := Tryz.underlying4
 a4 := Tryz.isAgg4
 z4 := Tryz.sizeOf4
 v4 := Tryz.zeroValue4
 t9 := Tryz.underlying9
 a9 := Tryz.isAgg9
 z9 := Tryz.sizeOf9
 v9 := Tryz.zeroValue9
 t37 := Tryz.underlying29
 a37 := Tryz.isAgg29
 z37 := Tryz.sizeOf29
 v37 := Tryz.zeroValue29
 t5 := Tryz.underlying5
 a5 := Tryz.isAgg5
 z5 := Tryz.sizeOf5
 v5 := Tryz.zeroValue5 }
theorem Tryz.bytes_HasPrefix_all (p1 p2 : Option Addr) (n c m d : Nat) (xs ys : List Int) (w : World) (hx : xs.length = n) (hy : ys.length = m) (hnc : n ≤ c) (h1 : Lib.BytesIn w p1 n xs) (h2 : Lib.BytesIn w p2 m ys) :
 Calls Tryz.prog 92 #[.slice p1 n c, .slice p2 m d] w fun e w' => e = .returned (.bool (Lib.hasPrefix (Lib.bytesOf xs) (Lib.bytesOf ys))) ∧ w' = w := Any.bytes_HasPrefix_all Tryz.laysnb116 p1 p2 n c m d xs ys w hx hy hnc h1 h2
theorem Tryz.bytes_HasSuffix (b1 o1 n c b2 o2 m d : Nat) (xs ys : List Int) (w : World) (hx : xs.length = n) (hy : ys.length = m) (hnc : n ≤ c) (hbig : n ≤ 9223372036854775807) (hc1 : ∀ i, i < n → w.cell? ⟨b1, o1 + i, none⟩ = some (.int .u8 (xs.getD i 0))) (hc2 : ∀ i, i < m → w.cell? ⟨b2, o2 + i, none⟩ = some (.int .u8 (ys.getD i 0))) :
 Calls Tryz.prog 138 #[.slice (some ⟨b1, o1, none⟩) n c, .slice (some ⟨b2, o2, none⟩) m d] w fun e w' => e = .returned (.bool (Lib.hasSuffix (Lib.bytesOf xs) (Lib.bytesOf ys))) ∧ w' = w := Any.bytes_HasSuffix Tryz.laysnb117 b1 o1 n c b2 o2 m d xs ys w hx hy hnc hbig hc1 hc2
end Go.Proofs
