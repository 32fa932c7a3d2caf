/- DERIVED: THE SHELF's CONTRACTS AT THIS DUMP, IN PLAIN WORDS The shelf's contracts, laid by hand (layhand.py): the writin Texts of numbers, limb by limb. -/
import Derived.Shelf.Strings.Builder1
import Derived.Shelf.Strings.Builder2
import Derived.Shelf.Strings.Trim
import Derived.Shelf.Small.Utf8
import Derived.Shelf.Small.Strs
import Derived.Shelf.Small.Wraps
import Derived.Shelf.Strings.BuilderF
import Derived.Shelf.Strings.BuilderK
import Derived.Shelf.Utf8.RuneCount
import Derived.Shelf.Strconv.Atoi
import Derived.Shelf.Strconv.Itoa0
import Derived.Shelf.Strconv.Itoa1
import Derived.Shelf.LaysM
import Derived.Shelf.Strconv.Itoa2
import Derived.Shelf.Strconv.Itoa3
import Derived.Shelf.Strconv.AtoiErrFast
import Derived.Shelf.Strconv.ParseIntEmpty
import Derived.Shelf.Strconv.AtoiFail
import Derived.Shelf.Strconv.Clone
import Derived.Shelf.Strconv.SyntaxError
import Derived.Shelf.LaysC
import Derived.Shelf.Strconv.ToError
import Derived.Shelf.Strconv.Lower
import Derived.Shelf.Strconv.ParseUint10
import Derived.Shelf.Strconv.ParseUint10Empty
import Derived.Shelf.Strconv.ParseUint10Any
import Derived.Shelf.Strconv.ParseInt10
import Derived.Shelf.Strconv.AtoiLong
import Derived.Shelf.Strconv.AtoiInnerAll
import Derived.Shelf.Strconv.RangeError
import Derived.Shelf.Strconv.ToErrorRange
import Derived.Shelf.Strconv.AtoiAll
import Derived.Shelf.Strings.Search1
import Derived.Shelf.Strings.Search2
import Derived.Shelf.Strings.Search3
import Derived.Shelf.Strings.Cut
import Derived.Shelf.Strings.Count
import Derived.Shelf.Strings.Shaped
import Derived.Shelf.Strings.Prefix
import Derived.Shelf.Strings.Split
import Derived.Shelf.Strings.SplitShaped
import Derived.Shelf.Unicode.Decode
import Derived.Shelf.Strings.Runes
import Derived.Shelf.Strings.RuneCount
import Derived.Shelf.Strings.AsciiSet
import Derived.Shelf.Strings.Explode
import Derived.Shelf.Bits.Mul64
import Derived.Shelf.Strings.Repeat
import Derived.Shelf.Unicode.DecodeSlow
import Derived.Shelf.Unicode.DecodeAny
import Derived.Shelf.Unicode.DecodeLast
import Derived.Ground.Names2Prog
import Derived.Shelf.Slices.SearchI
import Derived.Test.YtdkhkfdenlabaaaGreatDoorProg
import Derived.Test.YtdkhkfdenlabaaaGreatDoorLGG
import Derived.Test.YtdkhkfdenlabaaaGreatDoorLGD
import Derived.Lib.ItoaMem
set_option linter.unusedSimpArgs false
set_option linter.unusedVariables false
set_option maxRecDepth 100000
set_option maxHeartbeats 64000000
namespace Go.Proofs
open Go.Shelf
def Tryz.lays169_ren : Go.Shelf.Ren := ⟨fun | 169 => 226 | n => n, fun | 70 => 202 | 9 => 9 | 0 => 0 | 72 => 204 | 37 => 113 | 127 => 227 | 3 => 3 | 5 => 5 | n => n, fun | n => n⟩
theorem Tryz.lays169 : Go.Proofs.Lays.n169 Tryz.prog Tryz.lays169_ren := {
 mixed := by kernel_rfl
 f169 := Tryz.func226.trans (congrArg some (by kernel_rfl))
 t0 := Tryz.underlying0
 a0 := Tryz.isAgg0
 z0 := Tryz.sizeOf0
 v0 := Tryz.zeroValue0
 t3 := Tryz.underlying3
 a3 := Tryz.isAgg3
 z3 := Tryz.sizeOf3
 v3 := Tryz.zeroValue3
 t9 := Tryz.underlying9
 a9 := Tryz.isAgg9
 z9 := Tryz.sizeOf9
 v9 := Tryz.zeroValue9
 t37 := Tryz.underlying113
 a37 := Tryz.isAgg113
 z37 := Tryz.sizeOf113
 v37 := Tryz.zeroValue113
 t70 := Tryz.underlying202
 a70 := Tryz.isAgg202
 z70 := Tryz.sizeOf202
 v70 := Tryz.zeroValue202
 t72 := Tryz.underlying204
 a72 := Tryz.isAgg204
 z72 := Tryz.sizeOf204
 v72 := Tryz.zeroValue204
 t127 := Tryz.underlying227
 a127 := Tryz.isAgg227
 z127 := Tryz.sizeOf227
 v127 := Tryz.zeroValue227 }
theorem Tryz.Builder_Extra_169 : Builder.Extra Tryz.prog Tryz.lays169_ren := {
 sizeBuilder := by kernel_rfl
 liesBuilder := by kernel_rfl
 t5 := Tryz.underlying5
 a5 := Tryz.isAgg5
 z5 := Tryz.sizeOf5
 v5 := Tryz.zeroValue5
 infoByte := by kernel_rfl
 cellsByte := by kernel_rfl
 sizeByte := by kernel_rfl
 neB5 := by decide }
def Tryz.lays161_ren : Go.Shelf.Ren := ⟨fun | 161 => 178 | 231 => 142 | 227 => 144 | 233 => 145 | 235 => 147 | 228 => 189 | 197 => 105 | 151 => 190 | 260 => 159 | 152 => 216 | 137 => 245 | 119 => 246 | 224 => 231 | 225 => 230 | 217 => 229 | 266 => 252 | n => n, fun | 9 => 9 | 4 => 4 | 3 => 3 | 5 => 5 | 117 => 147 | 116 => 146 | 0 => 0 | 124 => 150 | 105 => 111 | 21 => 21 | 119 => 183 | 46 => 172 | 139 => 186 | 138 => 185 | n => n, fun | 3 => 2 | 4 => 3 | n => n⟩
theorem Tryz.lays161 : Go.Proofs.Lays.n161 Tryz.prog Tryz.lays161_ren := {
 mixed := by kernel_rfl
 f119 := Tryz.func246.trans (congrArg some (by kernel_rfl))
 f137 := Tryz.func245.trans (congrArg some (by kernel_rfl))
 f151 := Tryz.func190.trans (congrArg some (by kernel_rfl))
 f152 := Tryz.func216.trans (congrArg some (by kernel_rfl))
 f161 := Tryz.func178.trans (congrArg some (by kernel_rfl))
 f197 := Tryz.func105.trans (congrArg some (by kernel_rfl))
 f217 := Tryz.func229.trans (congrArg some (by kernel_rfl))
 f224 := Tryz.func231.trans (congrArg some (by kernel_rfl))
 f225 := Tryz.func230.trans (congrArg some (by kernel_rfl))
 f227 := Tryz.func144.trans (congrArg some (by kernel_rfl))
 f228 := Tryz.func189.trans (congrArg some (by kernel_rfl))
 f231 := Tryz.func142.trans (congrArg some (by kernel_rfl))
 f233 := Tryz.func145.trans (congrArg some (by kernel_rfl))
 f235 := Tryz.func147.trans (congrArg some (by kernel_rfl))
 f260 := Tryz.func159.trans (congrArg some (by kernel_rfl))
 f266 := Tryz.func252.trans (congrArg some (by kernel_rfl))
 t0 := Tryz.underlying0
 a0 := Tryz.isAgg0
 z0 := Tryz.sizeOf0
 v0 := Tryz.zeroValue0
 t3 := Tryz.underlying3
 a3 := Tryz.isAgg3
 z3 := Tryz.sizeOf3
 v3 := Tryz.zeroValue3
 t4 := Tryz.underlying4
 a4 := Tryz.isAgg4
 z4 := Tryz.sizeOf4
 v4 := Tryz.zeroValue4
 t5 := Tryz.underlying5
 a5 := Tryz.isAgg5
 z5 := Tryz.sizeOf5
 v5 := Tryz.zeroValue5
 t9 := Tryz.underlying9
 a9 := Tryz.isAgg9
 z9 := Tryz.sizeOf9
 v9 := Tryz.zeroValue9
 t21 := Tryz.underlying21
 a21 := Tryz.isAgg21
 z21 := Tryz.sizeOf21
 v21 := Tryz.zeroValue21
 t46 := Tryz.underlying172
 a46 := Tryz.isAgg172
 z46 := Tryz.sizeOf172
 v46 := Tryz.zeroValue172
 t105 := Tryz.underlying111
 a105 := Tryz.isAgg111
 z105 := Tryz.sizeOf111
 v105 := Tryz.zeroValue111
 t116 := Tryz.underlying146
 a116 := Tryz.isAgg146
 z116 := Tryz.sizeOf146
 t117 := Tryz.underlying147
 a117 := Tryz.isAgg147
 z117 := Tryz.sizeOf147
 v117 := Tryz.zeroValue147
 t119 := Tryz.underlying183
 a119 := Tryz.isAgg183
 z119 := Tryz.sizeOf183
 t124 := Tryz.underlying150
 a124 := Tryz.isAgg150
 z124 := Tryz.sizeOf150
 v124 := Tryz.zeroValue150
 t138 := Tryz.underlying185
 a138 := Tryz.isAgg185
 z138 := Tryz.sizeOf185
 v138 := Tryz.zeroValue185
 t139 := Tryz.underlying186
 a139 := Tryz.isAgg186
 z139 := Tryz.sizeOf186
 v139 := Tryz.zeroValue186
 g3 := by kernel_rfl
 g4 := by kernel_rfl }
def Tryz.lays160_ren : Go.Shelf.Ren := ⟨fun | 160 => 84 | 232 => 143 | 231 => 142 | 227 => 144 | 234 => 146 | 233 => 145 | 236 => 148 | 235 => 147 | 228 => 189 | 271 => 191 | 151 => 190 | 197 => 105 | 120 => 217 | 152 => 216 | 260 => 159 | 137 => 245 | 119 => 246 | 224 => 231 | 225 => 230 | 217 => 229 | 266 => 252 | n => n, fun | 9 => 9 | 4 => 4 | 3 => 3 | 5 => 5 | 117 => 147 | 116 => 146 | 0 => 0 | 124 => 150 | 21 => 21 | 105 => 111 | 46 => 172 | 119 => 183 | 139 => 186 | 138 => 185 | n => n, fun | 3 => 2 | 4 => 3 | n => n⟩
theorem Tryz.lays160 : Go.Proofs.Lays.n160 Tryz.prog Tryz.lays160_ren := {
 mixed := by kernel_rfl
 f119 := Tryz.func246.trans (congrArg some (by kernel_rfl))
 f120 := Tryz.func217.trans (congrArg some (by kernel_rfl))
 f137 := Tryz.func245.trans (congrArg some (by kernel_rfl))
 f151 := Tryz.func190.trans (congrArg some (by kernel_rfl))
 f152 := Tryz.func216.trans (congrArg some (by kernel_rfl))
 f160 := Tryz.func84.trans (congrArg some (by kernel_rfl))
 f197 := Tryz.func105.trans (congrArg some (by kernel_rfl))
 f217 := Tryz.func229.trans (congrArg some (by kernel_rfl))
 f224 := Tryz.func231.trans (congrArg some (by kernel_rfl))
 f225 := Tryz.func230.trans (congrArg some (by kernel_rfl))
 f227 := Tryz.func144.trans (congrArg some (by kernel_rfl))
 f228 := Tryz.func189.trans (congrArg some (by kernel_rfl))
 f231 := Tryz.func142.trans (congrArg some (by kernel_rfl))
 f232 := Tryz.func143.trans (congrArg some (by kernel_rfl))
 f233 := Tryz.func145.trans (congrArg some (by kernel_rfl))
 f234 := Tryz.func146.trans (congrArg some (by kernel_rfl))
 f235 := Tryz.func147.trans (congrArg some (by kernel_rfl))
 f236 := Tryz.func148.trans (congrArg some (by kernel_rfl))
 f260 := Tryz.func159.trans (congrArg some (by kernel_rfl))
 f266 := Tryz.func252.trans (congrArg some (by kernel_rfl))
 f271 := Tryz.func191.trans (congrArg some (by kernel_rfl))
 t0 := Tryz.underlying0
 a0 := Tryz.isAgg0
 z0 := Tryz.sizeOf0
 v0 := Tryz.zeroValue0
 t3 := Tryz.underlying3
 a3 := Tryz.isAgg3
 z3 := Tryz.sizeOf3
 v3 := Tryz.zeroValue3
 t4 := Tryz.underlying4
 a4 := Tryz.isAgg4
 z4 := Tryz.sizeOf4
 v4 := Tryz.zeroValue4
 t5 := Tryz.underlying5
 a5 := Tryz.isAgg5
 z5 := Tryz.sizeOf5
 v5 := Tryz.zeroValue5
 t9 := Tryz.underlying9
 a9 := Tryz.isAgg9
 z9 := Tryz.sizeOf9
 v9 := Tryz.zeroValue9
 t21 := Tryz.underlying21
 a21 := Tryz.isAgg21
 z21 := Tryz.sizeOf21
 v21 := Tryz.zeroValue21
 t46 := Tryz.underlying172
 a46 := Tryz.isAgg172
 z46 := Tryz.sizeOf172
 v46 := Tryz.zeroValue172
 t105 := Tryz.underlying111
 a105 := Tryz.isAgg111
 z105 := Tryz.sizeOf111
 v105 := Tryz.zeroValue111
 t116 := Tryz.underlying146
 a116 := Tryz.isAgg146
 z116 := Tryz.sizeOf146
 t117 := Tryz.underlying147
 a117 := Tryz.isAgg147
 z117 := Tryz.sizeOf147
 v117 := Tryz.zeroValue147
 t119 := Tryz.underlying183
 a119 := Tryz.isAgg183
 z119 := Tryz.sizeOf183
 t124 := Tryz.underlying150
 a124 := Tryz.isAgg150
 z124 := Tryz.sizeOf150
 v124 := Tryz.zeroValue150
 t138 := Tryz.underlying185
 a138 := Tryz.isAgg185
 z138 := Tryz.sizeOf185
 v138 := Tryz.zeroValue185
 t139 := Tryz.underlying186
 a139 := Tryz.isAgg186
 z139 := Tryz.sizeOf186
 v139 := Tryz.zeroValue186
 g3 := by kernel_rfl
 g4 := by kernel_rfl }
def Tryz.lays103_ren : Go.Shelf.Ren := ⟨fun | 103 => 54 | 210 => 107 | 206 => 160 | n => n, fun | 9 => 9 | 4 => 4 | 24 => 78 | 3 => 3 | n => n, fun | n => n⟩
theorem Tryz.lays103 : Go.Proofs.Lays.n103 Tryz.prog Tryz.lays103_ren := {
 mixed := by kernel_rfl
 f103 := Tryz.func54.trans (congrArg some (by kernel_rfl))
 f206 := Tryz.func160.trans (congrArg some (by kernel_rfl))
 f210 := Tryz.func107.trans (congrArg some (by kernel_rfl))
 t3 := Tryz.underlying3
 a3 := Tryz.isAgg3
 z3 := Tryz.sizeOf3
 v3 := Tryz.zeroValue3
 t4 := Tryz.underlying4
 a4 := Tryz.isAgg4
 z4 := Tryz.sizeOf4
 v4 := Tryz.zeroValue4
 t9 := Tryz.underlying9
 a9 := Tryz.isAgg9
 z9 := Tryz.sizeOf9
 v9 := Tryz.zeroValue9
 t24 := Tryz.underlying78
 a24 := Tryz.isAgg78
 z24 := Tryz.sizeOf78
 v24 := Tryz.zeroValue78 }
open Go.RowKit in
theorem Tryz.strings_CutPrefix (s p : ByteArray) (w : World) :
  Calls Tryz.prog 54 #[.string s, .string p] w fun e w' => e = .returned (.tuple #[.string ⟨(Lib.trimPrefix s.data.toList p.data.toList).toArray⟩, .bool (Lib.hasPrefix s.data.toList p.data.toList)]) ∧ w' = w := Any.strings_CutPrefix Tryz.lays103 s p w
def Tryz.lays104_ren : Go.Shelf.Ren := ⟨fun | 104 => 110 | 211 => 163 | 207 => 200 | n => n, fun | 9 => 9 | 4 => 4 | 24 => 78 | 3 => 3 | n => n, fun | n => n⟩
theorem Tryz.lays104 : Go.Proofs.Lays.n104 Tryz.prog Tryz.lays104_ren := {
 mixed := by kernel_rfl
 f104 := Tryz.func110.trans (congrArg some (by kernel_rfl))
 f207 := Tryz.func200.trans (congrArg some (by kernel_rfl))
 f211 := Tryz.func163.trans (congrArg some (by kernel_rfl))
 t3 := Tryz.underlying3
 a3 := Tryz.isAgg3
 z3 := Tryz.sizeOf3
 v3 := Tryz.zeroValue3
 t4 := Tryz.underlying4
 a4 := Tryz.isAgg4
 z4 := Tryz.sizeOf4
 v4 := Tryz.zeroValue4
 t9 := Tryz.underlying9
 a9 := Tryz.isAgg9
 z9 := Tryz.sizeOf9
 v9 := Tryz.zeroValue9
 t24 := Tryz.underlying78
 a24 := Tryz.isAgg78
 z24 := Tryz.sizeOf78
 v24 := Tryz.zeroValue78 }
open Go.RowKit in
theorem Tryz.strings_CutSuffix (s p : ByteArray) (w : World) (hs : s.size ≤ 9223372036854775807) :
  Calls Tryz.prog 110 #[.string s, .string p] w fun e w' => e = .returned (.tuple #[.string ⟨(Lib.trimSuffix s.data.toList p.data.toList).toArray⟩, .bool (Lib.hasSuffix s.data.toList p.data.toList)]) ∧ w' = w := Any.strings_CutSuffix Tryz.lays104 s p w hs
open Go.RowKit in
theorem Tryz.Builder_String_any_k (B b : Nat) (l : List UInt8) (w : World) (h : Lib.IsBuilderF 204 5 B b (Lib.byteCells l) w) (hBw : B ≤ w.heap.size) :
  Calls Tryz.prog 226 #[.pointer (some ⟨b, 0, none⟩)] w fun e w' => e = .returned (.string ⟨l.toArray⟩) ∧ (Lib.IsBuilderF 204 5 B b (Lib.byteCells l) w' ∧ Below B w w' ∧ Lib.OthersKept 5 (some b) w w') := Any.Builder_String_any_k Tryz.lays169 Tryz.Builder_Extra_169 B b l w h hBw
def Tryz.lays172_ren : Go.Shelf.Ren := ⟨fun | 172 => 177 | 244 => 212 | 245 => 213 | 247 => 236 | 279 => 237 | 280 => 238 | 281 => 239 | 282 => 240 | 287 => 254 | 316 => 255 | 171 => 139 | 205 => 256 | 321 => 264 | 322 => 265 | 243 => 188 | 246 => 215 | 283 => 241 | 284 => 242 | 285 => 243 | 286 => 244 | 129 => 258 | 317 => 257 | 318 => 259 | 319 => 260 | 320 => 261 | 337 => 266 | 338 => 267 | n => n, fun | 9 => 9 | 3 => 3 | 75 => 169 | 76 => 170 | 4 => 4 | 5 => 5 | 167 => 211 | 37 => 113 | 0 => 0 | 85 => 212 | 2 => 2 | 168 => 214 | 53 => 189 | 175 => 230 | 46 => 172 | 210 => 233 | 127 => 227 | 145 => 244 | 143 => 242 | 21 => 21 | 171 => 217 | 173 => 220 | 212 => 235 | 51 => 161 | 20 => 20 | 213 => 236 | 232 => 246 | 233 => 247 | 80 => 143 | n => n, fun | 15 => 5 | 16 => 6 | 17 => 7 | 18 => 8 | 19 => 9 | n => n⟩
theorem Tryz.lays172 : Go.Proofs.Lays.n172 Tryz.prog Tryz.lays172_ren := {
 mixed := by kernel_rfl
 f129 := Tryz.func258.trans (congrArg some (by kernel_rfl))
 f171 := Tryz.func139.trans (congrArg some (by kernel_rfl))
 f172 := Tryz.func177.trans (congrArg some (by kernel_rfl))
 f205 := Tryz.func256.trans (congrArg some (by kernel_rfl))
 f243 := Tryz.func188.trans (congrArg some (by kernel_rfl))
 f244 := Tryz.func212.trans (congrArg some (by kernel_rfl))
 f245 := Tryz.func213.trans (congrArg some (by kernel_rfl))
 f246 := Tryz.func215.trans (congrArg some (by kernel_rfl))
 f247 := Tryz.func236.trans (congrArg some (by kernel_rfl))
 f279 := Tryz.func237.trans (congrArg some (by kernel_rfl))
 f280 := Tryz.func238.trans (congrArg some (by kernel_rfl))
 f281 := Tryz.func239.trans (congrArg some (by kernel_rfl))
 f282 := Tryz.func240.trans (congrArg some (by kernel_rfl))
 f283 := Tryz.func241.trans (congrArg some (by kernel_rfl))
 f284 := Tryz.func242.trans (congrArg some (by kernel_rfl))
 f285 := Tryz.func243.trans (congrArg some (by kernel_rfl))
 f286 := Tryz.func244.trans (congrArg some (by kernel_rfl))
 f287 := Tryz.func254.trans (congrArg some (by kernel_rfl))
 f316 := Tryz.func255.trans (congrArg some (by kernel_rfl))
 f317 := Tryz.func257.trans (congrArg some (by kernel_rfl))
 f318 := Tryz.func259.trans (congrArg some (by kernel_rfl))
 f319 := Tryz.func260.trans (congrArg some (by kernel_rfl))
 f320 := Tryz.func261.trans (congrArg some (by kernel_rfl))
 f321 := Tryz.func264.trans (congrArg some (by kernel_rfl))
 f322 := Tryz.func265.trans (congrArg some (by kernel_rfl))
 f337 := Tryz.func266.trans (congrArg some (by kernel_rfl))
 f338 := Tryz.func267.trans (congrArg some (by kernel_rfl))
 t0 := Tryz.underlying0
 a0 := Tryz.isAgg0
 z0 := Tryz.sizeOf0
 v0 := Tryz.zeroValue0
 t2 := Tryz.underlying2
 a2 := Tryz.isAgg2
 z2 := Tryz.sizeOf2
 v2 := Tryz.zeroValue2
 t3 := Tryz.underlying3
 a3 := Tryz.isAgg3
 z3 := Tryz.sizeOf3
 v3 := Tryz.zeroValue3
 t4 := Tryz.underlying4
 a4 := Tryz.isAgg4
 z4 := Tryz.sizeOf4
 v4 := Tryz.zeroValue4
 t5 := Tryz.underlying5
 a5 := Tryz.isAgg5
 z5 := Tryz.sizeOf5
 v5 := Tryz.zeroValue5
 t9 := Tryz.underlying9
 a9 := Tryz.isAgg9
 z9 := Tryz.sizeOf9
 v9 := Tryz.zeroValue9
 t20 := Tryz.underlying20
 a20 := Tryz.isAgg20
 z20 := Tryz.sizeOf20
 v20 := Tryz.zeroValue20
 t21 := Tryz.underlying21
 a21 := Tryz.isAgg21
 z21 := Tryz.sizeOf21
 v21 := Tryz.zeroValue21
 t37 := Tryz.underlying113
 a37 := Tryz.isAgg113
 z37 := Tryz.sizeOf113
 v37 := Tryz.zeroValue113
 t46 := Tryz.underlying172
 a46 := Tryz.isAgg172
 z46 := Tryz.sizeOf172
 v46 := Tryz.zeroValue172
 t51 := Tryz.underlying161
 a51 := Tryz.isAgg161
 z51 := Tryz.sizeOf161
 v51 := Tryz.zeroValue161
 t53 := Tryz.underlying189
 a53 := Tryz.isAgg189
 z53 := Tryz.sizeOf189
 v53 := Tryz.zeroValue189
 t75 := Tryz.underlying169
 a75 := Tryz.isAgg169
 z75 := Tryz.sizeOf169
 v75 := Tryz.zeroValue169
 t76 := Tryz.underlying170
 a76 := Tryz.isAgg170
 z76 := Tryz.sizeOf170
 v76 := Tryz.zeroValue170
 t85 := Tryz.underlying212
 a85 := Tryz.isAgg212
 z85 := Tryz.sizeOf212
 v85 := Tryz.zeroValue212
 t127 := Tryz.underlying227
 a127 := Tryz.isAgg227
 z127 := Tryz.sizeOf227
 v127 := Tryz.zeroValue227
 t143 := Tryz.underlying242
 a143 := Tryz.isAgg242
 z143 := Tryz.sizeOf242
 v143 := Tryz.zeroValue242
 t145 := Tryz.underlying244
 a145 := Tryz.isAgg244
 z145 := Tryz.sizeOf244
 v145 := Tryz.zeroValue244
 t167 := Tryz.underlying211
 a167 := Tryz.isAgg211
 z167 := Tryz.sizeOf211
 v167 := Tryz.zeroValue211
 t168 := Tryz.underlying214
 a168 := Tryz.isAgg214
 z168 := Tryz.sizeOf214
 v168 := Tryz.zeroValue214
 t171 := Tryz.underlying217
 a171 := Tryz.isAgg217
 z171 := Tryz.sizeOf217
 v171 := Tryz.zeroValue217
 t173 := Tryz.underlying220
 a173 := Tryz.isAgg220
 z173 := Tryz.sizeOf220
 v173 := Tryz.zeroValue220
 t175 := Tryz.underlying230
 a175 := Tryz.isAgg230
 z175 := Tryz.sizeOf230
 v175 := Tryz.zeroValue230
 t210 := Tryz.underlying233
 a210 := Tryz.isAgg233
 z210 := Tryz.sizeOf233
 v210 := Tryz.zeroValue233
 t212 := Tryz.underlying235
 a212 := Tryz.isAgg235
 z212 := Tryz.sizeOf235
 v212 := Tryz.zeroValue235
 t213 := Tryz.underlying236
 a213 := Tryz.isAgg236
 z213 := Tryz.sizeOf236
 t232 := Tryz.underlying246
 a232 := Tryz.isAgg246
 z232 := Tryz.sizeOf246
 v232 := Tryz.zeroValue246
 t233 := Tryz.underlying247
 a233 := Tryz.isAgg247
 z233 := Tryz.sizeOf247
 v233 := Tryz.zeroValue247
 g15 := by kernel_rfl
 g16 := by kernel_rfl
 g17 := by kernel_rfl
 g18 := by kernel_rfl
 g19 := by kernel_rfl }
open Go.RowKit in
theorem Tryz.strconv_Atoi (s : ByteArray) (n : Int) (hl : s.size ≤ 18) (h : Lib.atoi s.data.toList = some n) (w : World) :
  Calls Tryz.prog 177 #[.string s] w fun e w' => e = .returned (.tuple #[.int .i64 n, .nilIface]) ∧ ∃ t, w' = Lib.bytesWorld w 5 t := Any.strconv_Atoi Tryz.lays172 s n hl h w
def Tryz.laysM171_ren : Go.Shelf.Ren := ⟨fun | 171 => 139 | 243 => 188 | 246 => 215 | 283 => 241 | 284 => 242 | 285 => 243 | 286 => 244 | 129 => 258 | 317 => 257 | 318 => 259 | 319 => 260 | 320 => 261 | 337 => 266 | 338 => 267 | n => n, fun | 3 => 3 | 9 => 9 | 2 => 2 | 4 => 4 | 171 => 217 | 0 => 0 | 53 => 189 | 37 => 113 | 5 => 5 | 173 => 220 | 212 => 235 | 51 => 161 | 20 => 20 | 213 => 236 | 46 => 172 | 232 => 246 | 233 => 247 | n => n, fun | 17 => 7 | 18 => 8 | 19 => 9 | n => n⟩
theorem Tryz.laysM171 : Go.Proofs.LaysM.n171 Tryz.prog Tryz.laysM171_ren := {
 mixed := by kernel_rfl
 f129 := Tryz.func258.trans (congrArg some (by kernel_rfl))
 f171 := Tryz.func139.trans (congrArg some (by kernel_rfl))
 f243 := Tryz.func188.trans (congrArg some (by kernel_rfl))
 f246 := Tryz.func215.trans (congrArg some (by kernel_rfl))
 f283 := Tryz.func241.trans (congrArg some (by kernel_rfl))
 f284 := Tryz.func242.trans (congrArg some (by kernel_rfl))
 f285 := Tryz.func243.trans (congrArg some (by kernel_rfl))
 f286 := Tryz.func244.trans (congrArg some (by kernel_rfl))
 f317 := Tryz.func257.trans (congrArg some (by kernel_rfl))
 f318 := Tryz.func259.trans (congrArg some (by kernel_rfl))
 f319 := Tryz.func260.trans (congrArg some (by kernel_rfl))
 f320 := Tryz.func261.trans (congrArg some (by kernel_rfl))
 f337 := Tryz.func266.trans (congrArg some (by kernel_rfl))
 f338 := Tryz.func267.trans (congrArg some (by kernel_rfl))
 t0 := Tryz.underlying0
 a0 := Tryz.isAgg0
 z0 := Tryz.sizeOf0
 v0 := Tryz.zeroValue0
 t2 := Tryz.underlying2
 a2 := Tryz.isAgg2
 z2 := Tryz.sizeOf2
 v2 := Tryz.zeroValue2
 t3 := Tryz.underlying3
 a3 := Tryz.isAgg3
 z3 := Tryz.sizeOf3
 v3 := Tryz.zeroValue3
 t4 := Tryz.underlying4
 a4 := Tryz.isAgg4
 z4 := Tryz.sizeOf4
 v4 := Tryz.zeroValue4
 t5 := Tryz.underlying5
 a5 := Tryz.isAgg5
 z5 := Tryz.sizeOf5
 v5 := Tryz.zeroValue5
 t9 := Tryz.underlying9
 a9 := Tryz.isAgg9
 z9 := Tryz.sizeOf9
 v9 := Tryz.zeroValue9
 t20 := Tryz.underlying20
 a20 := Tryz.isAgg20
 z20 := Tryz.sizeOf20
 v20 := Tryz.zeroValue20
 t37 := Tryz.underlying113
 a37 := Tryz.isAgg113
 z37 := Tryz.sizeOf113
 v37 := Tryz.zeroValue113
 t46 := Tryz.underlying172
 a46 := Tryz.isAgg172
 z46 := Tryz.sizeOf172
 v46 := Tryz.zeroValue172
 t51 := Tryz.underlying161
 a51 := Tryz.isAgg161
 z51 := Tryz.sizeOf161
 v51 := Tryz.zeroValue161
 t53 := Tryz.underlying189
 a53 := Tryz.isAgg189
 z53 := Tryz.sizeOf189
 v53 := Tryz.zeroValue189
 t171 := Tryz.underlying217
 a171 := Tryz.isAgg217
 z171 := Tryz.sizeOf217
 v171 := Tryz.zeroValue217
 t173 := Tryz.underlying220
 a173 := Tryz.isAgg220
 z173 := Tryz.sizeOf220
 v173 := Tryz.zeroValue220
 t212 := Tryz.underlying235
 a212 := Tryz.isAgg235
 z212 := Tryz.sizeOf235
 v212 := Tryz.zeroValue235
 t213 := Tryz.underlying236
 a213 := Tryz.isAgg236
 z213 := Tryz.sizeOf236
 t232 := Tryz.underlying246
 a232 := Tryz.isAgg246
 z232 := Tryz.sizeOf246
 v232 := Tryz.zeroValue246
 t233 := Tryz.underlying247
 a233 := Tryz.isAgg247
 z233 := Tryz.sizeOf247
 v233 := Tryz.zeroValue247
 g17 := by kernel_rfl
 g18 := by kernel_rfl
 g19 := by kernel_rfl
 i0 := by kernel_rfl
 i2 := by kernel_rfl
 i3 := by kernel_rfl
 i4 := by kernel_rfl
 i5 := by kernel_rfl
 i9 := by kernel_rfl
 i20 := by kernel_rfl
 i37 := by kernel_rfl
 i46 := by kernel_rfl
 i51 := by kernel_rfl
 i53 := by kernel_rfl
 i171 := by kernel_rfl
 i173 := by kernel_rfl
 i212 := by kernel_rfl
 i232 := by kernel_rfl
 i233 := by kernel_rfl
 m17 := by kernel_rfl
 m18 := by kernel_rfl
 m19 := by kernel_rfl }
open Go.RowKit Go.Sort Go.Lib in
theorem Tryz.strconv_Itoa (n : Int) (h0 : -9223372036854775808 ≤ n) (h1 : n ≤ 9223372036854775807) (w : World) (htab : Lib.TabIs Tryz.prog w "internal/strconv.uint64pow10" .u64 Lib.pow10Tab) :
  Calls Tryz.prog 139 #[.int .i64 n] w fun e w' => e = .returned (.string ⟨(Lib.itoa n).toArray⟩) ∧ ∃ k os, w' = grow (w.drewN k) os := Any.strconv_Itoa Tryz.laysM171 n h0 h1 w htab
def Tryz.laysC172_ren : Go.Shelf.Ren := ⟨fun | 172 => 177 | 244 => 212 | 245 => 213 | 247 => 236 | 279 => 237 | 280 => 238 | 281 => 239 | 282 => 240 | 287 => 254 | 316 => 255 | 171 => 139 | 205 => 256 | 321 => 264 | 322 => 265 | 243 => 188 | 246 => 215 | 283 => 241 | 284 => 242 | 285 => 243 | 286 => 244 | 129 => 258 | 317 => 257 | 318 => 259 | 319 => 260 | 320 => 261 | 337 => 266 | 338 => 267 | n => n, fun | 9 => 9 | 3 => 3 | 75 => 169 | 76 => 170 | 4 => 4 | 5 => 5 | 167 => 211 | 37 => 113 | 0 => 0 | 85 => 212 | 2 => 2 | 168 => 214 | 53 => 189 | 175 => 230 | 46 => 172 | 210 => 233 | 127 => 227 | 145 => 244 | 143 => 242 | 21 => 21 | 171 => 217 | 173 => 220 | 212 => 235 | 51 => 161 | 20 => 20 | 213 => 236 | 232 => 246 | 233 => 247 | 80 => 143 | n => n, fun | 15 => 5 | 16 => 6 | 17 => 7 | 18 => 8 | 19 => 9 | n => n⟩
theorem Tryz.laysC172 : Go.Proofs.LaysC.n172 Tryz.prog Tryz.laysC172_ren := {
 mixed := by kernel_rfl
 f129 := Tryz.func258.trans (congrArg some (by kernel_rfl))
 f171 := Tryz.func139.trans (congrArg some (by kernel_rfl))
 f172 := Tryz.func177.trans (congrArg some (by kernel_rfl))
 f205 := Tryz.func256.trans (congrArg some (by kernel_rfl))
 f243 := Tryz.func188.trans (congrArg some (by kernel_rfl))
 f244 := Tryz.func212.trans (congrArg some (by kernel_rfl))
 f245 := Tryz.func213.trans (congrArg some (by kernel_rfl))
 f246 := Tryz.func215.trans (congrArg some (by kernel_rfl))
 f247 := Tryz.func236.trans (congrArg some (by kernel_rfl))
 f279 := Tryz.func237.trans (congrArg some (by kernel_rfl))
 f280 := Tryz.func238.trans (congrArg some (by kernel_rfl))
 f281 := Tryz.func239.trans (congrArg some (by kernel_rfl))
 f282 := Tryz.func240.trans (congrArg some (by kernel_rfl))
 f283 := Tryz.func241.trans (congrArg some (by kernel_rfl))
 f284 := Tryz.func242.trans (congrArg some (by kernel_rfl))
 f285 := Tryz.func243.trans (congrArg some (by kernel_rfl))
 f286 := Tryz.func244.trans (congrArg some (by kernel_rfl))
 f287 := Tryz.func254.trans (congrArg some (by kernel_rfl))
 f316 := Tryz.func255.trans (congrArg some (by kernel_rfl))
 f317 := Tryz.func257.trans (congrArg some (by kernel_rfl))
 f318 := Tryz.func259.trans (congrArg some (by kernel_rfl))
 f319 := Tryz.func260.trans (congrArg some (by kernel_rfl))
 f320 := Tryz.func261.trans (congrArg some (by kernel_rfl))
 f321 := Tryz.func264.trans (congrArg some (by kernel_rfl))
 f322 := Tryz.func265.trans (congrArg some (by kernel_rfl))
 f337 := Tryz.func266.trans (congrArg some (by kernel_rfl))
 f338 := Tryz.func267.trans (congrArg some (by kernel_rfl))
 t0 := Tryz.underlying0
 a0 := Tryz.isAgg0
 z0 := Tryz.sizeOf0
 v0 := Tryz.zeroValue0
 t2 := Tryz.underlying2
 a2 := Tryz.isAgg2
 z2 := Tryz.sizeOf2
 v2 := Tryz.zeroValue2
 t3 := Tryz.underlying3
 a3 := Tryz.isAgg3
 z3 := Tryz.sizeOf3
 v3 := Tryz.zeroValue3
 t4 := Tryz.underlying4
 a4 := Tryz.isAgg4
 z4 := Tryz.sizeOf4
 v4 := Tryz.zeroValue4
 t5 := Tryz.underlying5
 a5 := Tryz.isAgg5
 z5 := Tryz.sizeOf5
 v5 := Tryz.zeroValue5
 t9 := Tryz.underlying9
 a9 := Tryz.isAgg9
 z9 := Tryz.sizeOf9
 v9 := Tryz.zeroValue9
 t20 := Tryz.underlying20
 a20 := Tryz.isAgg20
 z20 := Tryz.sizeOf20
 v20 := Tryz.zeroValue20
 t21 := Tryz.underlying21
 a21 := Tryz.isAgg21
 z21 := Tryz.sizeOf21
 v21 := Tryz.zeroValue21
 t37 := Tryz.underlying113
 a37 := Tryz.isAgg113
 z37 := Tryz.sizeOf113
 v37 := Tryz.zeroValue113
 t46 := Tryz.underlying172
 a46 := Tryz.isAgg172
 z46 := Tryz.sizeOf172
 v46 := Tryz.zeroValue172
 t51 := Tryz.underlying161
 a51 := Tryz.isAgg161
 z51 := Tryz.sizeOf161
 v51 := Tryz.zeroValue161
 t53 := Tryz.underlying189
 a53 := Tryz.isAgg189
 z53 := Tryz.sizeOf189
 v53 := Tryz.zeroValue189
 t75 := Tryz.underlying169
 a75 := Tryz.isAgg169
 z75 := Tryz.sizeOf169
 v75 := Tryz.zeroValue169
 t76 := Tryz.underlying170
 a76 := Tryz.isAgg170
 z76 := Tryz.sizeOf170
 v76 := Tryz.zeroValue170
 t85 := Tryz.underlying212
 a85 := Tryz.isAgg212
 z85 := Tryz.sizeOf212
 v85 := Tryz.zeroValue212
 t127 := Tryz.underlying227
 a127 := Tryz.isAgg227
 z127 := Tryz.sizeOf227
 v127 := Tryz.zeroValue227
 t143 := Tryz.underlying242
 a143 := Tryz.isAgg242
 z143 := Tryz.sizeOf242
 v143 := Tryz.zeroValue242
 t145 := Tryz.underlying244
 a145 := Tryz.isAgg244
 z145 := Tryz.sizeOf244
 v145 := Tryz.zeroValue244
 t167 := Tryz.underlying211
 a167 := Tryz.isAgg211
 z167 := Tryz.sizeOf211
 v167 := Tryz.zeroValue211
 t168 := Tryz.underlying214
 a168 := Tryz.isAgg214
 z168 := Tryz.sizeOf214
 v168 := Tryz.zeroValue214
 t171 := Tryz.underlying217
 a171 := Tryz.isAgg217
 z171 := Tryz.sizeOf217
 v171 := Tryz.zeroValue217
 t173 := Tryz.underlying220
 a173 := Tryz.isAgg220
 z173 := Tryz.sizeOf220
 v173 := Tryz.zeroValue220
 t175 := Tryz.underlying230
 a175 := Tryz.isAgg230
 z175 := Tryz.sizeOf230
 v175 := Tryz.zeroValue230
 t210 := Tryz.underlying233
 a210 := Tryz.isAgg233
 z210 := Tryz.sizeOf233
 v210 := Tryz.zeroValue233
 t212 := Tryz.underlying235
 a212 := Tryz.isAgg235
 z212 := Tryz.sizeOf235
 v212 := Tryz.zeroValue235
 t213 := Tryz.underlying236
 a213 := Tryz.isAgg236
 z213 := Tryz.sizeOf236
 t232 := Tryz.underlying246
 a232 := Tryz.isAgg246
 z232 := Tryz.sizeOf246
 v232 := Tryz.zeroValue246
 t233 := Tryz.underlying247
 a233 := Tryz.isAgg247
 z233 := Tryz.sizeOf247
 v233 := Tryz.zeroValue247
 g15 := by kernel_rfl
 g16 := by kernel_rfl
 g17 := by kernel_rfl
 g18 := by kernel_rfl
 g19 := by kernel_rfl
 t80 := Tryz.underlying143
 a80 := Tryz.isAgg143
 z80 := Tryz.sizeOf143
 v80 := Tryz.zeroValue143
 i0 := by kernel_rfl
 i2 := by kernel_rfl
 i3 := by kernel_rfl
 i4 := by kernel_rfl
 i5 := by kernel_rfl
 i9 := by kernel_rfl
 i20 := by kernel_rfl
 i21 := by kernel_rfl
 i37 := by kernel_rfl
 i46 := by kernel_rfl
 i51 := by kernel_rfl
 i53 := by kernel_rfl
 i75 := by kernel_rfl
 i76 := by kernel_rfl
 i80 := by kernel_rfl
 i85 := by kernel_rfl
 i127 := by kernel_rfl
 i143 := by kernel_rfl
 i145 := by kernel_rfl
 i167 := by kernel_rfl
 i168 := by kernel_rfl
 i171 := by kernel_rfl
 i173 := by kernel_rfl
 i175 := by kernel_rfl
 i210 := by kernel_rfl
 i212 := by kernel_rfl
 i232 := by kernel_rfl
 i233 := by kernel_rfl
 m15 := by kernel_rfl
 m16 := by kernel_rfl
 m17 := by kernel_rfl
 m18 := by kernel_rfl
 m19 := by kernel_rfl
 c0 := by kernel_rfl
 c2 := by kernel_rfl
 c3 := by kernel_rfl
 c4 := by kernel_rfl
 c5 := by kernel_rfl
 c9 := by kernel_rfl
 c20 := by kernel_rfl
 c21 := by kernel_rfl
 c37 := by kernel_rfl
 c46 := by kernel_rfl
 c51 := by kernel_rfl
 c53 := by kernel_rfl
 c75 := by kernel_rfl
 c76 := by kernel_rfl
 c80 := by kernel_rfl
 c85 := by kernel_rfl
 c127 := by kernel_rfl
 c143 := by kernel_rfl
 c145 := by kernel_rfl
 c167 := by kernel_rfl
 c168 := by kernel_rfl
 c171 := by kernel_rfl
 c173 := by kernel_rfl
 c175 := by kernel_rfl
 c210 := by kernel_rfl
 c212 := by kernel_rfl
 c213 := by kernel_rfl
 c232 := by kernel_rfl
 c233 := by kernel_rfl }
open Go.RowKit in
theorem Tryz.strconv_Atoi_ok (s : ByteArray) (hmax : s.size ≤ 9223372036854775806) (v : Int) (h : Lib.atoiAll s.data.toList = .ok v) (w : World) :
  Calls Tryz.prog 177 #[.string s] w fun e w' => e = .returned (.tuple #[.int .i64 v, .nilIface]) ∧ (w' = w ∨ ∃ t, w' = Lib.bytesWorld w 5 t) := Any.strconv_Atoi_ok Tryz.laysC172 s hmax v h w
open Go.RowKit in
theorem Tryz.strconv_Atoi_syntax (s : ByteArray) (hlim : s.size ≤ 281474976710656) (h : Lib.atoiAll s.data.toList = .«syntax») (ev : Value) (w : World) (hv : w.cell? ⟨5, 0, none⟩ = some ev) (hev : ev = .nilIface ∨ ∃ te pe, ev = .iface te pe) :
  Calls Tryz.prog 177 #[.string s] w fun e w' => ∃ N, e = .returned (.tuple #[.int .i64 (0), .iface 214 (.pointer (some ⟨N, 0, none⟩))]) ∧ w.heap.size ≤ N ∧ w'.heap[N]? = some (.cells #[.string ⟨#[65, 116, 111, 105]⟩, .string s, ev] 233 (0, 0)) ∧ Below w.heap.size w w' := Any.strconv_Atoi_syntax Tryz.laysC172 s hlim h ev w hv hev
open Go.RowKit in
theorem Tryz.strconv_Atoi_range (s : ByteArray) (hlim : s.size ≤ 281474976710656) (h : Lib.atoiAll s.data.toList = .range) (ev : Value) (w : World) (hv : w.cell? ⟨6, 0, none⟩ = some ev) (hev : ev = .nilIface ∨ ∃ te pe, ev = .iface te pe) :
  Calls Tryz.prog 177 #[.string s] w fun e w' => ∃ N, e = .returned (.tuple #[.int .i64 (Lib.atoiSat s.data.toList), .iface 214 (.pointer (some ⟨N, 0, none⟩))]) ∧ w.heap.size ≤ N ∧ w'.heap[N]? = some (.cells #[.string ⟨#[65, 116, 111, 105]⟩, .string s, ev] 233 (0, 0)) ∧ Below w.heap.size w w' := Any.strconv_Atoi_range Tryz.laysC172 s hlim h ev w hv hev
def Tryz.lays145_ren : Go.Shelf.Ren := ⟨fun | 145 => 113 | 220 => 173 | 219 => 205 | 217 => 229 | 225 => 230 | 224 => 231 | 267 => 232 | 266 => 252 | 314 => 253 | n => n, fun | 9 => 9 | 4 => 4 | 59 => 118 | 3 => 3 | 5 => 5 | 46 => 172 | 146 => 223 | 51 => 161 | n => n, fun | 1 => 4 | n => n⟩
theorem Tryz.lays145 : Go.Proofs.Lays.n145 Tryz.prog Tryz.lays145_ren := {
 mixed := by kernel_rfl
 f145 := Tryz.func113.trans (congrArg some (by kernel_rfl))
 f217 := Tryz.func229.trans (congrArg some (by kernel_rfl))
 f219 := Tryz.func205.trans (congrArg some (by kernel_rfl))
 f220 := Tryz.func173.trans (congrArg some (by kernel_rfl))
 f224 := Tryz.func231.trans (congrArg some (by kernel_rfl))
 f225 := Tryz.func230.trans (congrArg some (by kernel_rfl))
 f266 := Tryz.func252.trans (congrArg some (by kernel_rfl))
 f267 := Tryz.func232.trans (congrArg some (by kernel_rfl))
 f314 := Tryz.func253.trans (congrArg some (by kernel_rfl))
 t3 := Tryz.underlying3
 a3 := Tryz.isAgg3
 z3 := Tryz.sizeOf3
 v3 := Tryz.zeroValue3
 t4 := Tryz.underlying4
 a4 := Tryz.isAgg4
 z4 := Tryz.sizeOf4
 v4 := Tryz.zeroValue4
 t5 := Tryz.underlying5
 a5 := Tryz.isAgg5
 z5 := Tryz.sizeOf5
 v5 := Tryz.zeroValue5
 t9 := Tryz.underlying9
 a9 := Tryz.isAgg9
 z9 := Tryz.sizeOf9
 v9 := Tryz.zeroValue9
 t46 := Tryz.underlying172
 a46 := Tryz.isAgg172
 z46 := Tryz.sizeOf172
 v46 := Tryz.zeroValue172
 t51 := Tryz.underlying161
 a51 := Tryz.isAgg161
 z51 := Tryz.sizeOf161
 v51 := Tryz.zeroValue161
 t59 := Tryz.underlying118
 a59 := Tryz.isAgg118
 z59 := Tryz.sizeOf118
 v59 := Tryz.zeroValue118
 t146 := Tryz.underlying223
 a146 := Tryz.isAgg223
 z146 := Tryz.sizeOf223
 v146 := Tryz.zeroValue223
 g1 := by kernel_rfl }
open Go.RowKit Go.Lib in
theorem Tryz.strings_Cut (s sep : ByteArray) (m : Int) (w : World) (hs : s.size < 4294967281) (hm : w.cell? ⟨4, 0, none⟩ = some (.int .i64 m)) :
  Calls Tryz.prog 113 #[.string s, .string sep] w fun e w' => e = .returned (.tuple #[.string ⟨(Lib.cut s.data.toList sep.data.toList).1.toArray⟩, .string ⟨(Lib.cut s.data.toList sep.data.toList).2.1.toArray⟩, .bool (Lib.cut s.data.toList sep.data.toList).2.2]) ∧ ∃ n, w' = w.drewN n := Any.strings_Cut Tryz.lays145 s sep m w hs hm
def Tryz.lays99_ren : Go.Shelf.Ren := ⟨fun | 99 => 162 | 206 => 160 | n => n, fun | 9 => 9 | 4 => 4 | 3 => 3 | n => n, fun | n => n⟩
theorem Tryz.lays99 : Go.Proofs.Lays.n99 Tryz.prog Tryz.lays99_ren := {
 mixed := by kernel_rfl
 f99 := Tryz.func162.trans (congrArg some (by kernel_rfl))
 f206 := Tryz.func160.trans (congrArg some (by kernel_rfl))
 t3 := Tryz.underlying3
 a3 := Tryz.isAgg3
 z3 := Tryz.sizeOf3
 v3 := Tryz.zeroValue3
 t4 := Tryz.underlying4
 a4 := Tryz.isAgg4
 z4 := Tryz.sizeOf4
 v4 := Tryz.zeroValue4
 t9 := Tryz.underlying9
 a9 := Tryz.isAgg9
 z9 := Tryz.sizeOf9
 v9 := Tryz.zeroValue9 }
open Go.RowKit Go.Lib in
theorem Tryz.strings_HasPrefix (s p : ByteArray) (w : World) :
  Calls Tryz.prog 162 #[.string s, .string p] w fun e w' => e = .returned (.bool (Lib.hasPrefix s.data.toList p.data.toList)) ∧ w' = w := Any.strings_HasPrefix Tryz.lays99 s p w
def Tryz.lays101_ren : Go.Shelf.Ren := ⟨fun | 101 => 108 | 208 => 161 | 206 => 160 | n => n, fun | 9 => 9 | 4 => 4 | 3 => 3 | n => n, fun | n => n⟩
theorem Tryz.lays101 : Go.Proofs.Lays.n101 Tryz.prog Tryz.lays101_ren := {
 mixed := by kernel_rfl
 f101 := Tryz.func108.trans (congrArg some (by kernel_rfl))
 f206 := Tryz.func160.trans (congrArg some (by kernel_rfl))
 f208 := Tryz.func161.trans (congrArg some (by kernel_rfl))
 t3 := Tryz.underlying3
 a3 := Tryz.isAgg3
 z3 := Tryz.sizeOf3
 v3 := Tryz.zeroValue3
 t4 := Tryz.underlying4
 a4 := Tryz.isAgg4
 z4 := Tryz.sizeOf4
 v4 := Tryz.zeroValue4
 t9 := Tryz.underlying9
 a9 := Tryz.isAgg9
 z9 := Tryz.sizeOf9
 v9 := Tryz.zeroValue9 }
open Go.RowKit Go.Lib in
theorem Tryz.strings_TrimPrefix (s p : ByteArray) (w : World) :
  Calls Tryz.prog 108 #[.string s, .string p] w fun e w' => e = .returned (.string ⟨(Lib.trimPrefix s.data.toList p.data.toList).toArray⟩) ∧ w' = w := Any.strings_TrimPrefix Tryz.lays101 s p w
def Tryz.lays146_ren : Go.Shelf.Ren := ⟨fun | 146 => 117 | 221 => 176 | 268 => 209 | 138 => 210 | 143 => 211 | 195 => 234 | 197 => 105 | 218 => 235 | 219 => 205 | 260 => 159 | 217 => 229 | 225 => 230 | 224 => 231 | 267 => 232 | 266 => 252 | 314 => 253 | n => n, fun | 9 => 9 | 31 => 121 | 3 => 3 | 4 => 4 | 0 => 0 | 105 => 111 | 21 => 21 | 5 => 5 | 46 => 172 | 119 => 183 | 139 => 186 | 138 => 185 | 146 => 223 | 51 => 161 | n => n, fun | 1 => 4 | 3 => 2 | 4 => 3 | n => n⟩
theorem Tryz.lays146 : Go.Proofs.Lays.n146 Tryz.prog Tryz.lays146_ren := {
 mixed := by kernel_rfl
 f138 := Tryz.func210.trans (congrArg some (by kernel_rfl))
 f143 := Tryz.func211.trans (congrArg some (by kernel_rfl))
 f146 := Tryz.func117.trans (congrArg some (by kernel_rfl))
 f195 := Tryz.func234.trans (congrArg some (by kernel_rfl))
 f197 := Tryz.func105.trans (congrArg some (by kernel_rfl))
 f217 := Tryz.func229.trans (congrArg some (by kernel_rfl))
 f218 := Tryz.func235.trans (congrArg some (by kernel_rfl))
 f219 := Tryz.func205.trans (congrArg some (by kernel_rfl))
 f221 := Tryz.func176.trans (congrArg some (by kernel_rfl))
 f224 := Tryz.func231.trans (congrArg some (by kernel_rfl))
 f225 := Tryz.func230.trans (congrArg some (by kernel_rfl))
 f260 := Tryz.func159.trans (congrArg some (by kernel_rfl))
 f266 := Tryz.func252.trans (congrArg some (by kernel_rfl))
 f267 := Tryz.func232.trans (congrArg some (by kernel_rfl))
 f268 := Tryz.func209.trans (congrArg some (by kernel_rfl))
 f314 := Tryz.func253.trans (congrArg some (by kernel_rfl))
 t0 := Tryz.underlying0
 a0 := Tryz.isAgg0
 z0 := Tryz.sizeOf0
 v0 := Tryz.zeroValue0
 t3 := Tryz.underlying3
 a3 := Tryz.isAgg3
 z3 := Tryz.sizeOf3
 v3 := Tryz.zeroValue3
 t4 := Tryz.underlying4
 a4 := Tryz.isAgg4
 z4 := Tryz.sizeOf4
 v4 := Tryz.zeroValue4
 t5 := Tryz.underlying5
 a5 := Tryz.isAgg5
 z5 := Tryz.sizeOf5
 v5 := Tryz.zeroValue5
 t9 := Tryz.underlying9
 a9 := Tryz.isAgg9
 z9 := Tryz.sizeOf9
 v9 := Tryz.zeroValue9
 t21 := Tryz.underlying21
 a21 := Tryz.isAgg21
 z21 := Tryz.sizeOf21
 v21 := Tryz.zeroValue21
 t31 := Tryz.underlying121
 a31 := Tryz.isAgg121
 z31 := Tryz.sizeOf121
 v31 := Tryz.zeroValue121
 t46 := Tryz.underlying172
 a46 := Tryz.isAgg172
 z46 := Tryz.sizeOf172
 v46 := Tryz.zeroValue172
 t51 := Tryz.underlying161
 a51 := Tryz.isAgg161
 z51 := Tryz.sizeOf161
 v51 := Tryz.zeroValue161
 t105 := Tryz.underlying111
 a105 := Tryz.isAgg111
 z105 := Tryz.sizeOf111
 v105 := Tryz.zeroValue111
 t119 := Tryz.underlying183
 a119 := Tryz.isAgg183
 z119 := Tryz.sizeOf183
 t138 := Tryz.underlying185
 a138 := Tryz.isAgg185
 z138 := Tryz.sizeOf185
 v138 := Tryz.zeroValue185
 t139 := Tryz.underlying186
 a139 := Tryz.isAgg186
 z139 := Tryz.sizeOf186
 v139 := Tryz.zeroValue186
 t146 := Tryz.underlying223
 a146 := Tryz.isAgg223
 z146 := Tryz.sizeOf223
 v146 := Tryz.zeroValue223
 g1 := by kernel_rfl
 g3 := by kernel_rfl
 g4 := by kernel_rfl }
open Go.RowKit Go.Lib in
theorem Tryz.strings_Split (s sep : ByteArray) (m : Int) (w : World) (hs : s.size < 4294967281) (hm : w.cell? ⟨4, 0, none⟩ = some (.int .i64 m)) (h1 : 1 ≤ sep.size) :
  Calls Tryz.prog 117 #[.string s, .string sep] w fun e w' =>
   e = .returned (.slice (some ⟨w.heap.size, 0, none⟩) (Lib.countB s sep + 1) (Lib.countB s sep + 1)) ∧ w' = w.alloc (.cells ((Lib.splitB sep 0 (Lib.countB s sep) s).map Value.string).toArray 9) := Any.strings_Split Tryz.lays146 (by kernel_rfl) s sep m w hs hm h1
def Tryz.lays197_ren : Go.Shelf.Ren := ⟨fun | 197 => 105 | 260 => 159 | n => n, fun | 9 => 9 | 21 => 21 | 3 => 3 | 4 => 4 | 5 => 5 | 105 => 111 | 119 => 183 | 0 => 0 | 46 => 172 | 139 => 186 | 138 => 185 | n => n, fun | 3 => 2 | 4 => 3 | n => n⟩
theorem Tryz.lays197 : Go.Proofs.Lays.n197 Tryz.prog Tryz.lays197_ren := {
 mixed := by kernel_rfl
 f197 := Tryz.func105.trans (congrArg some (by kernel_rfl))
 f260 := Tryz.func159.trans (congrArg some (by kernel_rfl))
 t0 := Tryz.underlying0
 a0 := Tryz.isAgg0
 z0 := Tryz.sizeOf0
 v0 := Tryz.zeroValue0
 t3 := Tryz.underlying3
 a3 := Tryz.isAgg3
 z3 := Tryz.sizeOf3
 v3 := Tryz.zeroValue3
 t4 := Tryz.underlying4
 a4 := Tryz.isAgg4
 z4 := Tryz.sizeOf4
 v4 := Tryz.zeroValue4
 t5 := Tryz.underlying5
 a5 := Tryz.isAgg5
 z5 := Tryz.sizeOf5
 v5 := Tryz.zeroValue5
 t9 := Tryz.underlying9
 a9 := Tryz.isAgg9
 z9 := Tryz.sizeOf9
 v9 := Tryz.zeroValue9
 t21 := Tryz.underlying21
 a21 := Tryz.isAgg21
 z21 := Tryz.sizeOf21
 v21 := Tryz.zeroValue21
 t46 := Tryz.underlying172
 a46 := Tryz.isAgg172
 z46 := Tryz.sizeOf172
 v46 := Tryz.zeroValue172
 t105 := Tryz.underlying111
 a105 := Tryz.isAgg111
 z105 := Tryz.sizeOf111
 v105 := Tryz.zeroValue111
 t119 := Tryz.underlying183
 a119 := Tryz.isAgg183
 z119 := Tryz.sizeOf183
 t138 := Tryz.underlying185
 a138 := Tryz.isAgg185
 z138 := Tryz.sizeOf185
 v138 := Tryz.zeroValue185
 t139 := Tryz.underlying186
 a139 := Tryz.isAgg186
 z139 := Tryz.sizeOf186
 v139 := Tryz.zeroValue186
 g3 := by kernel_rfl
 g4 := by kernel_rfl }
def Tryz.lays105_ren : Go.Shelf.Ren := ⟨fun | 105 => 202 | 212 => 222 | 99 => 162 | 165 => 223 | 166 => 224 | 170 => 225 | 169 => 226 | 263 => 247 | 264 => 248 | 206 => 160 | 240 => 249 | 241 => 250 | 276 => 262 | 277 => 263 | n => n, fun | 9 => 9 | 3 => 3 | 4 => 4 | 20 => 20 | 0 => 0 | 46 => 172 | 109 => 200 | 5 => 5 | 72 => 204 | 76 => 170 | 51 => 161 | 146 => 223 | 53 => 189 | 148 => 225 | 70 => 202 | 37 => 113 | 75 => 169 | 127 => 227 | 164 => 238 | 80 => 143 | n => n, fun | n => n⟩
theorem Tryz.lays105 : Go.Proofs.Lays.n105 Tryz.prog Tryz.lays105_ren := {
 mixed := by kernel_rfl
 f99 := Tryz.func162.trans (congrArg some (by kernel_rfl))
 f105 := Tryz.func202.trans (congrArg some (by kernel_rfl))
 f165 := Tryz.func223.trans (congrArg some (by kernel_rfl))
 f166 := Tryz.func224.trans (congrArg some (by kernel_rfl))
 f169 := Tryz.func226.trans (congrArg some (by kernel_rfl))
 f170 := Tryz.func225.trans (congrArg some (by kernel_rfl))
 f206 := Tryz.func160.trans (congrArg some (by kernel_rfl))
 f212 := Tryz.func222.trans (congrArg some (by kernel_rfl))
 f240 := Tryz.func249.trans (congrArg some (by kernel_rfl))
 f241 := Tryz.func250.trans (congrArg some (by kernel_rfl))
 f263 := Tryz.func247.trans (congrArg some (by kernel_rfl))
 f264 := Tryz.func248.trans (congrArg some (by kernel_rfl))
 f276 := Tryz.func262.trans (congrArg some (by kernel_rfl))
 f277 := Tryz.func263.trans (congrArg some (by kernel_rfl))
 t0 := Tryz.underlying0
 a0 := Tryz.isAgg0
 z0 := Tryz.sizeOf0
 v0 := Tryz.zeroValue0
 t3 := Tryz.underlying3
 a3 := Tryz.isAgg3
 z3 := Tryz.sizeOf3
 v3 := Tryz.zeroValue3
 t4 := Tryz.underlying4
 a4 := Tryz.isAgg4
 z4 := Tryz.sizeOf4
 v4 := Tryz.zeroValue4
 t5 := Tryz.underlying5
 a5 := Tryz.isAgg5
 z5 := Tryz.sizeOf5
 v5 := Tryz.zeroValue5
 t9 := Tryz.underlying9
 a9 := Tryz.isAgg9
 z9 := Tryz.sizeOf9
 v9 := Tryz.zeroValue9
 t20 := Tryz.underlying20
 a20 := Tryz.isAgg20
 z20 := Tryz.sizeOf20
 v20 := Tryz.zeroValue20
 t37 := Tryz.underlying113
 a37 := Tryz.isAgg113
 z37 := Tryz.sizeOf113
 v37 := Tryz.zeroValue113
 t46 := Tryz.underlying172
 a46 := Tryz.isAgg172
 z46 := Tryz.sizeOf172
 v46 := Tryz.zeroValue172
 t51 := Tryz.underlying161
 a51 := Tryz.isAgg161
 z51 := Tryz.sizeOf161
 v51 := Tryz.zeroValue161
 t53 := Tryz.underlying189
 a53 := Tryz.isAgg189
 z53 := Tryz.sizeOf189
 v53 := Tryz.zeroValue189
 t70 := Tryz.underlying202
 a70 := Tryz.isAgg202
 z70 := Tryz.sizeOf202
 v70 := Tryz.zeroValue202
 t72 := Tryz.underlying204
 a72 := Tryz.isAgg204
 z72 := Tryz.sizeOf204
 v72 := Tryz.zeroValue204
 t75 := Tryz.underlying169
 a75 := Tryz.isAgg169
 z75 := Tryz.sizeOf169
 v75 := Tryz.zeroValue169
 t76 := Tryz.underlying170
 a76 := Tryz.isAgg170
 z76 := Tryz.sizeOf170
 v76 := Tryz.zeroValue170
 t109 := Tryz.underlying200
 a109 := Tryz.isAgg200
 z109 := Tryz.sizeOf200
 v109 := Tryz.zeroValue200
 t127 := Tryz.underlying227
 a127 := Tryz.isAgg227
 z127 := Tryz.sizeOf227
 v127 := Tryz.zeroValue227
 t146 := Tryz.underlying223
 a146 := Tryz.isAgg223
 z146 := Tryz.sizeOf223
 v146 := Tryz.zeroValue223
 t148 := Tryz.underlying225
 a148 := Tryz.isAgg225
 z148 := Tryz.sizeOf225
 v148 := Tryz.zeroValue225
 t164 := Tryz.underlying238
 a164 := Tryz.isAgg238
 z164 := Tryz.sizeOf238
 v164 := Tryz.zeroValue238 }
theorem Tryz.Builder_Extra_105 : Builder.Extra Tryz.prog Tryz.lays105_ren := {
 sizeBuilder := by kernel_rfl
 liesBuilder := by kernel_rfl
 t5 := Tryz.underlying5
 a5 := Tryz.isAgg5
 z5 := Tryz.sizeOf5
 v5 := Tryz.zeroValue5
 infoByte := by kernel_rfl
 cellsByte := by kernel_rfl
 sizeByte := by kernel_rfl
 neB5 := by decide }
open Go.RowKit Go.Lib in
theorem Tryz.strings_Repeat_main (s : ByteArray) (c : Nat) (w : World) (hc2 : 2 ≤ c) (hc : c ≤ 9223372036854775807) (hlen : s.size * c ≤ 140737488355328) (h0 : 0 < s.size) :
  Calls Tryz.prog 202 #[.string s, .int .i64 c] w fun e w' => e = .returned (.string ⟨(Lib.repeatL s.data.toList c).toArray⟩) ∧ Below w.heap.size w w' := Any.strings_Repeat_main Tryz.lays105 Tryz.Builder_Extra_105 s c w hc2 hc hlen h0
open Go.RowKit Go.Lib in
theorem Tryz.strings_Repeat_zero (s : ByteArray) (w : World) :
  Calls Tryz.prog 202 #[.string s, .int .i64 0] w fun e w' => e = .returned (.string ⟨#[]⟩) ∧ w' = w := Any.strings_Repeat_zero Tryz.lays105 s w
open Go.RowKit Go.Lib in
theorem Tryz.strings_Repeat_one (s : ByteArray) (w : World) :
  Calls Tryz.prog 202 #[.string s, .int .i64 1] w fun e w' => e = .returned (.string s) ∧ w' = w := Any.strings_Repeat_one Tryz.lays105 s w
open Go.RowKit Go.Lib in
theorem Tryz.utf8_DecodeRuneInString (s : ByteArray) (w : World) (hT : Lib.Utf8Tabs 2 3 w) :
  Calls Tryz.prog 105 #[.string s] w fun e w' => e = .returned (.tuple #[.int .i32 (Lib.decodeGo s).1, .int .i64 (Lib.decodeGo s).2]) ∧ Below w.heap.size w w' := Any.utf8_DecodeRuneInString Tryz.lays197 s w hT
def Tryz.lays166_ren : Go.Shelf.Ren := ⟨fun | 166 => 224 | 240 => 249 | 276 => 262 | n => n, fun | 0 => 0 | 3 => 3 | 4 => 4 | 5 => 5 | 9 => 9 | 20 => 20 | 37 => 113 | 70 => 202 | 72 => 204 | 75 => 169 | 80 => 143 | 164 => 238 | n => n, fun | n => n⟩
theorem Tryz.lays166 : Go.Proofs.Lays.n166 Tryz.prog Tryz.lays166_ren := {
 mixed := by kernel_rfl
 f166 := Tryz.func224.trans (congrArg some (by kernel_rfl))
 f240 := Tryz.func249.trans (congrArg some (by kernel_rfl))
 f276 := Tryz.func262.trans (congrArg some (by kernel_rfl))
 t0 := Tryz.underlying0
 a0 := Tryz.isAgg0
 z0 := Tryz.sizeOf0
 v0 := Tryz.zeroValue0
 t3 := Tryz.underlying3
 a3 := Tryz.isAgg3
 z3 := Tryz.sizeOf3
 v3 := Tryz.zeroValue3
 t4 := Tryz.underlying4
 a4 := Tryz.isAgg4
 z4 := Tryz.sizeOf4
 v4 := Tryz.zeroValue4
 t9 := Tryz.underlying9
 a9 := Tryz.isAgg9
 z9 := Tryz.sizeOf9
 v9 := Tryz.zeroValue9
 t20 := Tryz.underlying20
 a20 := Tryz.isAgg20
 z20 := Tryz.sizeOf20
 v20 := Tryz.zeroValue20
 t37 := Tryz.underlying113
 a37 := Tryz.isAgg113
 z37 := Tryz.sizeOf113
 v37 := Tryz.zeroValue113
 t70 := Tryz.underlying202
 a70 := Tryz.isAgg202
 z70 := Tryz.sizeOf202
 v70 := Tryz.zeroValue202
 t72 := Tryz.underlying204
 a72 := Tryz.isAgg204
 z72 := Tryz.sizeOf204
 v72 := Tryz.zeroValue204
 t75 := Tryz.underlying169
 a75 := Tryz.isAgg169
 z75 := Tryz.sizeOf169
 v75 := Tryz.zeroValue169
 t164 := Tryz.underlying238
 a164 := Tryz.isAgg238
 z164 := Tryz.sizeOf238
 v164 := Tryz.zeroValue238 }
theorem Tryz.Builder_Extra_166 : Builder.Extra Tryz.prog Tryz.lays166_ren := {
 sizeBuilder := by kernel_rfl
 liesBuilder := by kernel_rfl
 t5 := Tryz.underlying5
 a5 := Tryz.isAgg5
 z5 := Tryz.sizeOf5
 v5 := Tryz.zeroValue5
 infoByte := by kernel_rfl
 cellsByte := by kernel_rfl
 sizeByte := by kernel_rfl
 neB5 := by decide }
open Go.RowKit in
theorem Tryz.Builder_WriteString_k (B b : Nat) (bs : List Value) (s : ByteArray) (w : World) (h : Lib.IsBuilderF 204 5 B b bs w) (hlen : bs.length + s.size ≤ 140737488355328) (hBw : B ≤ w.heap.size) :
  Calls Tryz.prog 224 #[.pointer (some ⟨b, 0, none⟩), .string s] w fun e w' => e = .returned (.tuple #[.int .i64 s.size, .nilIface]) ∧ (Lib.BuilderAtF 204 5 B b (.pointer (some ⟨b, 0, none⟩)) (bs ++ Lib.strCells s) w' ∧ Below B w w' ∧ Lib.OthersKept 5 (some b) w w') := Any.Builder_WriteString_k Tryz.lays166 Tryz.Builder_Extra_166 B b bs s w h hlen hBw
end Go.Proofs
namespace Go.Proofs.YtdkhkfdenlabaaaGreatDoor
open Go.RowKit Go.Shelf
open Sym
attribute [local go_sem] Oper.semAt_some
def limbT (n : Nat) (p : Nat × Dg) : List UInt8 := (if p.1 + 1 < n then List.replicate (9 - (Lib.decDigits p.2.1).length) 48 else []) ++ Lib.decDigits p.2.1
def txtB (n : Nat) (ps : List (Nat × Dg)) : List UInt8 := ps.foldl (fun s p => s ++ limbT n p) []
theorem txtB_snoc (n : Nat) (ps : List (Nat × Dg)) (p : Nat × Dg) : txtB n (ps ++ [p]) = txtB n ps ++ limbT n p := by simp [txtB]
theorem dec_len {d : Nat} (h : d < 1000000000) : 1 ≤ (Lib.decDigits d).length ∧ (Lib.decDigits d).length ≤ 9 := by
 refine ⟨?_, (ExP.padk_eq 9 d (by omega) (by simpa using h)).2⟩
 rw [Lib.decDigits]
 split <;> simp
theorem limbT_len (n : Nat) (p : Nat × Dg) : (limbT n p).length ≤ 9 := by
 obtain ⟨h1, h2⟩ := dec_len p.2.2
 unfold limbT
 split <;> simp <;> omega
theorem txtB_len (n : Nat) (ps : List (Nat × Dg)) : (txtB n ps).length ≤ 9 * ps.length := by
 unfold txtB
 have : ∀ (l : List (Nat × Dg)) (s : List UInt8), (l.foldl (fun s p => s ++ limbT n p) s).length ≤ s.length + 9 * l.length := by
  intro l
  induction l with
  | nil => intro s; simp
  | cons p r ih => intro s; rw [List.foldl_cons]; have := ih (s ++ limbT n p); have h2 := limbT_len n p; simp only [List.length_append, List.length_cons] at this ⊢; omega
 simpa using this ps []
def limb (x i : Nat) : Dg := ⟨ExP.dig 1000000000 i x, ExP.dig_lt (by omega) i x⟩
theorem top_pos {x n : Nat} (h : 0 < n) (hn : n = ExP.nd 1000000000 x) : 0 < x / 1000000000 ^ (n - 1 - 0) := by
 have h1 := (ExP.ndF_spec (b := 1000000000) (by omega) x x (Nat.le_refl _)).2
 change ExP.nd 1000000000 x = 0 ∨ 1000000000 ^ (ExP.nd 1000000000 x - 1) ≤ x at h1
 rw [← hn] at h1
 exact Nat.div_pos (by rcases h1 with h1 | h1; (omega); exact h1) (Nat.pow_pos (by omega))
theorem txt_down {x : Nat} (n : Nat) (hn : n = ExP.nd 1000000000 x) : ∀ k, k ≤ n → txtB n (downto (limb x) n k) = ExP.decE (x / 1000000000 ^ (n - k)) := by
 intro k
 induction k with
 | zero =>
   intro _
   have : x / 1000000000 ^ (n - 0) = 0 := Nat.div_eq_of_lt (by rw [hn]; exact ExP.nd_lt (by omega) x)
   rw [this]; rfl
 | succ k ih =>
   intro hk
   rw [downto_succ, txtB_snoc, ih (by omega)]
   have e1 : n - (k + 1) = n - 1 - k := by omega
   rw [e1]
   have e2 : n - k = n - 1 - k + 1 := by omega
   rw [e2]
   unfold limbT limb
   dsimp only
   rcases Nat.eq_zero_or_pos k with h0 | h0
   ·subst h0
    rw [if_neg (by omega)]
    have e3 : x / 1000000000 ^ (n - 1 - 0 + 1) = 0 := Nat.div_eq_of_lt (by rw [show n - 1 - 0 + 1 = n by omega, hn]; exact ExP.nd_lt (by omega) x)
    rw [e3]
    have h1 : 0 < x / 1000000000 ^ (n - 1 - 0) := top_pos (by omega) hn
    rw [ExP.dec_pos h1]
    have e4 : ExP.dig 1000000000 (n - 1 - 0) x = x / 1000000000 ^ (n - 1 - 0) := by
     unfold ExP.dig
     apply Nat.mod_eq_of_lt
     rw [Nat.pow_succ, ← Nat.div_div_eq_div_mul] at e3
     rcases Nat.lt_or_ge (x / 1000000000 ^ (n - 1 - 0)) 1000000000 with h | h
     ·exact h
     ·have := Nat.div_pos h (by omega : 0 < 1000000000); omega
    rw [e4]; rfl
   ·rw [if_pos (by omega)]
    refine (ExP.dec_limb (by omega) ?_).1.symm
    have := top_pos (x := x) (n := n) (by omega) hn
    exact Nat.lt_of_lt_of_le this (Nat.div_le_div_left (Nat.pow_le_pow_right (by omega) (by omega)) (Nat.pow_pos (by omega)))
end Go.Proofs.YtdkhkfdenlabaaaGreatDoor
