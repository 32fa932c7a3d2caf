/- DERIVED: THE SHELF's CONTRACTS AT THIS DUMP, IN PLAIN WORDS (tools/lay-plain.mjs out of 'YtdkhkfdenlabaaaGreatDoorShelf.lean', which tools/lay-shelf.mjs wrote): THE SAME DECLARATIONS UNDER THE SAME NAMES: 'import', 'namespace', 'open', 'def', 'theorem' AND NOTHING ELSE: no command of the shelf's: FOR A HAND-IN. Each laying: the table of numbers ('.._ren') and one theorem, a field a fact of the dump's own or the kernel's comparison; each contract: ONE APPLICATION. The shelf's contracts, laid by hand (layhand.py): the writing of strings into a builder. Texts of numbers, limb by limb. The text of a number. Values: what the walks ask of the world; single look-ups. -/
import Derived.Shelf.Strings.Builder1
import Derived.Shelf.Strings.Builder2
import Derived.Shelf.Strings.Trim
import Derived.Shelf.Small.Utf8
import Derived.Shelf.Small.Strs
import Derived.Shelf.Small.Wraps
import Derived.Shelf.Strings.BuilderF
import Derived.Shelf.Strings.BuilderK
import Derived.Shelf.Utf8.RuneCount
import Derived.Shelf.Strconv.Atoi
import Derived.Shelf.Strconv.Itoa0
import Derived.Shelf.Strconv.Itoa1
import Derived.Shelf.LaysM
import Derived.Shelf.Strconv.Itoa2
import Derived.Shelf.Strconv.Itoa3
import Derived.Shelf.Strconv.AtoiErrFast
import Derived.Shelf.Strconv.ParseIntEmpty
import Derived.Shelf.Strconv.AtoiFail
import Derived.Shelf.Strconv.Clone
import Derived.Shelf.Strconv.SyntaxError
import Derived.Shelf.LaysC
import Derived.Shelf.Strconv.ToError
import Derived.Shelf.Strconv.Lower
import Derived.Shelf.Strconv.ParseUint10
import Derived.Shelf.Strconv.ParseUint10Empty
import Derived.Shelf.Strconv.ParseUint10Any
import Derived.Shelf.Strconv.ParseInt10
import Derived.Shelf.Strconv.AtoiLong
import Derived.Shelf.Strconv.AtoiInnerAll
import Derived.Shelf.Strconv.RangeError
import Derived.Shelf.Strconv.ToErrorRange
import Derived.Shelf.Strconv.AtoiAll
import Derived.Shelf.Strings.Search1
import Derived.Shelf.Strings.Search2
import Derived.Shelf.Strings.Search3
import Derived.Shelf.Strings.Cut
import Derived.Shelf.Strings.Count
import Derived.Shelf.Strings.Shaped
import Derived.Shelf.Strings.Prefix
import Derived.Shelf.Strings.Split
import Derived.Shelf.Strings.SplitShaped
import Derived.Shelf.Unicode.Decode
import Derived.Shelf.Strings.Runes
import Derived.Shelf.Strings.RuneCount
import Derived.Shelf.Strings.AsciiSet
import Derived.Shelf.Strings.Explode
import Derived.Shelf.Bits.Mul64
import Derived.Shelf.Strings.Repeat
import Derived.Shelf.Unicode.DecodeSlow
import Derived.Shelf.Unicode.DecodeAny
import Derived.Shelf.Unicode.DecodeLast
import Derived.Ground.Names2Prog
import Derived.Shelf.Slices.SearchI
import Derived.Test.YtdkhkfdenlabaaaGreatDoorProg
import Derived.Test.YtdkhkfdenlabaaaGreatDoorVGF
import Derived.Test.YtdkhkfdenlabaaaGreatDoorVGD
import Derived.Lib.ItoaMem
import Derived.Test.YtdkhkfdenlabaaaGreatDoorVGE
set_option linter.unusedSimpArgs false
set_option linter.unusedVariables false
namespace Go.Proofs
open Go.Shelf
def Tryz.lays169_ren : Go.Shelf.Ren := ⟨fun | 169 => 226 | n => n, fun | 70 => 202 | 9 => 9 | 0 => 0 | 72 => 204 | 37 => 113 | 127 => 227 | 3 => 3 | 5 => 5 | n => n, fun | n => n⟩
theorem Tryz.lays169 : Go.Proofs.Lays.n169 Tryz.prog Tryz.lays169_ren := {
  mixed := by kernel_rfl
  f169 := Tryz.func226.trans (congrArg some (by kernel_rfl))
  t0 := Tryz.underlying0
  a0 := Tryz.isAgg0
  z0 := Tryz.sizeOf0
  v0 := Tryz.zeroValue0
  t3 := Tryz.underlying3
  a3 := Tryz.isAgg3
  z3 := Tryz.sizeOf3
  v3 := Tryz.zeroValue3
  t9 := Tryz.underlying9
  a9 := Tryz.isAgg9
  z9 := Tryz.sizeOf9
  v9 := Tryz.zeroValue9
  t37 := Tryz.underlying113
  a37 := Tryz.isAgg113
  z37 := Tryz.sizeOf113
  v37 := Tryz.zeroValue113
  t70 := Tryz.underlying202
  a70 := Tryz.isAgg202
  z70 := Tryz.sizeOf202
  v70 := Tryz.zeroValue202
  t72 := Tryz.underlying204
  a72 := Tryz.isAgg204
  z72 := Tryz.sizeOf204
  v72 := Tryz.zeroValue204
  t127 := Tryz.underlying227
  a127 := Tryz.isAgg227
  z127 := Tryz.sizeOf227
  v127 := Tryz.zeroValue227 }
theorem Tryz.Builder_Extra_169 : Builder.Extra Tryz.prog Tryz.lays169_ren := {
  sizeBuilder := by kernel_rfl
  liesBuilder := by kernel_rfl
  t5 := Tryz.underlying5
  a5 := Tryz.isAgg5
  z5 := Tryz.sizeOf5
  v5 := Tryz.zeroValue5
  infoByte := by kernel_rfl
  cellsByte := by kernel_rfl
  sizeByte := by kernel_rfl
  neB5 := by decide }
def Tryz.lays161_ren : Go.Shelf.Ren := ⟨fun | 161 => 178 | 231 => 142 | 227 => 144 | 233 => 145 | 235 => 147 | 228 => 189 | 197 => 105 | 151 => 190 | 260 => 159 | 152 => 216 | 137 => 245 | 119 => 246 | 224 => 231 | 225 => 230 | 217 => 229 | 266 => 252 | n => n, fun | 9 => 9 | 4 => 4 | 3 => 3 | 5 => 5 | 117 => 147 | 116 => 146 | 0 => 0 | 124 => 150 | 105 => 111 | 21 => 21 | 119 => 183 | 46 => 172 | 139 => 186 | 138 => 185 | n => n, fun | 3 => 2 | 4 => 3 | n => n⟩
theorem Tryz.lays161 : Go.Proofs.Lays.n161 Tryz.prog Tryz.lays161_ren := {
  mixed := by kernel_rfl
  f119 := Tryz.func246.trans (congrArg some (by kernel_rfl))
  f137 := Tryz.func245.trans (congrArg some (by kernel_rfl))
  f151 := Tryz.func190.trans (congrArg some (by kernel_rfl))
  f152 := Tryz.func216.trans (congrArg some (by kernel_rfl))
  f161 := Tryz.func178.trans (congrArg some (by kernel_rfl))
  f197 := Tryz.func105.trans (congrArg some (by kernel_rfl))
  f217 := Tryz.func229.trans (congrArg some (by kernel_rfl))
  f224 := Tryz.func231.trans (congrArg some (by kernel_rfl))
  f225 := Tryz.func230.trans (congrArg some (by kernel_rfl))
  f227 := Tryz.func144.trans (congrArg some (by kernel_rfl))
  f228 := Tryz.func189.trans (congrArg some (by kernel_rfl))
  f231 := Tryz.func142.trans (congrArg some (by kernel_rfl))
  f233 := Tryz.func145.trans (congrArg some (by kernel_rfl))
  f235 := Tryz.func147.trans (congrArg some (by kernel_rfl))
  f260 := Tryz.func159.trans (congrArg some (by kernel_rfl))
  f266 := Tryz.func252.trans (congrArg some (by kernel_rfl))
  t0 := Tryz.underlying0
  a0 := Tryz.isAgg0
  z0 := Tryz.sizeOf0
  v0 := Tryz.zeroValue0
  t3 := Tryz.underlying3
  a3 := Tryz.isAgg3
  z3 := Tryz.sizeOf3
  v3 := Tryz.zeroValue3
  t4 := Tryz.underlying4
  a4 := Tryz.isAgg4
  z4 := Tryz.sizeOf4
  v4 := Tryz.zeroValue4
  t5 := Tryz.underlying5
  a5 := Tryz.isAgg5
  z5 := Tryz.sizeOf5
  v5 := Tryz.zeroValue5
  t9 := Tryz.underlying9
  a9 := Tryz.isAgg9
  z9 := Tryz.sizeOf9
  v9 := Tryz.zeroValue9
  t21 := Tryz.underlying21
  a21 := Tryz.isAgg21
  z21 := Tryz.sizeOf21
  v21 := Tryz.zeroValue21
  t46 := Tryz.underlying172
  a46 := Tryz.isAgg172
  z46 := Tryz.sizeOf172
  v46 := Tryz.zeroValue172
  t105 := Tryz.underlying111
  a105 := Tryz.isAgg111
  z105 := Tryz.sizeOf111
  v105 := Tryz.zeroValue111
  t116 := Tryz.underlying146
  a116 := Tryz.isAgg146
  z116 := Tryz.sizeOf146
  t117 := Tryz.underlying147
  a117 := Tryz.isAgg147
  z117 := Tryz.sizeOf147
  v117 := Tryz.zeroValue147
  t119 := Tryz.underlying183
  a119 := Tryz.isAgg183
  z119 := Tryz.sizeOf183
  t124 := Tryz.underlying150
  a124 := Tryz.isAgg150
  z124 := Tryz.sizeOf150
  v124 := Tryz.zeroValue150
  t138 := Tryz.underlying185
  a138 := Tryz.isAgg185
  z138 := Tryz.sizeOf185
  v138 := Tryz.zeroValue185
  t139 := Tryz.underlying186
  a139 := Tryz.isAgg186
  z139 := Tryz.sizeOf186
  v139 := Tryz.zeroValue186
  g3 := by kernel_rfl
  g4 := by kernel_rfl }
def Tryz.lays160_ren : Go.Shelf.Ren := ⟨fun | 160 => 84 | 232 => 143 | 231 => 142 | 227 => 144 | 234 => 146 | 233 => 145 | 236 => 148 | 235 => 147 | 228 => 189 | 271 => 191 | 151 => 190 | 197 => 105 | 120 => 217 | 152 => 216 | 260 => 159 | 137 => 245 | 119 => 246 | 224 => 231 | 225 => 230 | 217 => 229 | 266 => 252 | n => n, fun | 9 => 9 | 4 => 4 | 3 => 3 | 5 => 5 | 117 => 147 | 116 => 146 | 0 => 0 | 124 => 150 | 21 => 21 | 105 => 111 | 46 => 172 | 119 => 183 | 139 => 186 | 138 => 185 | n => n, fun | 3 => 2 | 4 => 3 | n => n⟩
theorem Tryz.lays160 : Go.Proofs.Lays.n160 Tryz.prog Tryz.lays160_ren := {
  mixed := by kernel_rfl
  f119 := Tryz.func246.trans (congrArg some (by kernel_rfl))
  f120 := Tryz.func217.trans (congrArg some (by kernel_rfl))
  f137 := Tryz.func245.trans (congrArg some (by kernel_rfl))
  f151 := Tryz.func190.trans (congrArg some (by kernel_rfl))
  f152 := Tryz.func216.trans (congrArg some (by kernel_rfl))
  f160 := Tryz.func84.trans (congrArg some (by kernel_rfl))
  f197 := Tryz.func105.trans (congrArg some (by kernel_rfl))
  f217 := Tryz.func229.trans (congrArg some (by kernel_rfl))
  f224 := Tryz.func231.trans (congrArg some (by kernel_rfl))
  f225 := Tryz.func230.trans (congrArg some (by kernel_rfl))
  f227 := Tryz.func144.trans (congrArg some (by kernel_rfl))
  f228 := Tryz.func189.trans (congrArg some (by kernel_rfl))
  f231 := Tryz.func142.trans (congrArg some (by kernel_rfl))
  f232 := Tryz.func143.trans (congrArg some (by kernel_rfl))
  f233 := Tryz.func145.trans (congrArg some (by kernel_rfl))
  f234 := Tryz.func146.trans (congrArg some (by kernel_rfl))
  f235 := Tryz.func147.trans (congrArg some (by kernel_rfl))
  f236 := Tryz.func148.trans (congrArg some (by kernel_rfl))
  f260 := Tryz.func159.trans (congrArg some (by kernel_rfl))
  f266 := Tryz.func252.trans (congrArg some (by kernel_rfl))
  f271 := Tryz.func191.trans (congrArg some (by kernel_rfl))
  t0 := Tryz.underlying0
  a0 := Tryz.isAgg0
  z0 := Tryz.sizeOf0
  v0 := Tryz.zeroValue0
  t3 := Tryz.underlying3
  a3 := Tryz.isAgg3
  z3 := Tryz.sizeOf3
  v3 := Tryz.zeroValue3
  t4 := Tryz.underlying4
  a4 := Tryz.isAgg4
  z4 := Tryz.sizeOf4
  v4 := Tryz.zeroValue4
  t5 := Tryz.underlying5
  a5 := Tryz.isAgg5
  z5 := Tryz.sizeOf5
  v5 := Tryz.zeroValue5
  t9 := Tryz.underlying9
  a9 := Tryz.isAgg9
  z9 := Tryz.sizeOf9
  v9 := Tryz.zeroValue9
  t21 := Tryz.underlying21
  a21 := Tryz.isAgg21
  z21 := Tryz.sizeOf21
  v21 := Tryz.zeroValue21
  t46 := Tryz.underlying172
  a46 := Tryz.isAgg172
  z46 := Tryz.sizeOf172
  v46 := Tryz.zeroValue172
  t105 := Tryz.underlying111
  a105 := Tryz.isAgg111
  z105 := Tryz.sizeOf111
  v105 := Tryz.zeroValue111
  t116 := Tryz.underlying146
  a116 := Tryz.isAgg146
  z116 := Tryz.sizeOf146
  t117 := Tryz.underlying147
  a117 := Tryz.isAgg147
  z117 := Tryz.sizeOf147
  v117 := Tryz.zeroValue147
  t119 := Tryz.underlying183
  a119 := Tryz.isAgg183
  z119 := Tryz.sizeOf183
  t124 := Tryz.underlying150
  a124 := Tryz.isAgg150
  z124 := Tryz.sizeOf150
  v124 := Tryz.zeroValue150
  t138 := Tryz.underlying185
  a138 := Tryz.isAgg185
  z138 := Tryz.sizeOf185
  v138 := Tryz.zeroValue185
  t139 := Tryz.underlying186
  a139 := Tryz.isAgg186
  z139 := Tryz.sizeOf186
  v139 := Tryz.zeroValue186
  g3 := by kernel_rfl
  g4 := by kernel_rfl }
def Tryz.lays103_ren : Go.Shelf.Ren := ⟨fun | 103 => 54 | 210 => 107 | 206 => 160 | n => n, fun | 9 => 9 | 4 => 4 | 24 => 78 | 3 => 3 | n => n, fun | n => n⟩
theorem Tryz.lays103 : Go.Proofs.Lays.n103 Tryz.prog Tryz.lays103_ren := {
  mixed := by kernel_rfl
  f103 := Tryz.func54.trans (congrArg some (by kernel_rfl))
  f206 := Tryz.func160.trans (congrArg some (by kernel_rfl))
  f210 := Tryz.func107.trans (congrArg some (by kernel_rfl))
  t3 := Tryz.underlying3
  a3 := Tryz.isAgg3
  z3 := Tryz.sizeOf3
  v3 := Tryz.zeroValue3
  t4 := Tryz.underlying4
  a4 := Tryz.isAgg4
  z4 := Tryz.sizeOf4
  v4 := Tryz.zeroValue4
  t9 := Tryz.underlying9
  a9 := Tryz.isAgg9
  z9 := Tryz.sizeOf9
  v9 := Tryz.zeroValue9
  t24 := Tryz.underlying78
  a24 := Tryz.isAgg78
  z24 := Tryz.sizeOf78
  v24 := Tryz.zeroValue78 }
open Go.RowKit in
/-- strings.CutPrefix: "CutPrefix returns s without the provided leading prefix string and reports whether it found the prefix. If s doesn't start with prefix, CutPrefix returns s, false. If prefix is the empty string, CutPrefix returns s, true.": IT RETURNS '(Lib.trimPrefix s p, Lib.hasPrefix s p)'; the world is as it was. (LAID: no walk: one application.) -/
theorem Tryz.strings_CutPrefix (s p : ByteArray) (w : World) :
    Calls Tryz.prog 54 #[.string s, .string p] w fun e w' => e = .returned (.tuple #[.string ⟨(Lib.trimPrefix s.data.toList p.data.toList).toArray⟩, .bool (Lib.hasPrefix s.data.toList p.data.toList)]) ∧ w' = w := Any.strings_CutPrefix Tryz.lays103 s p w
def Tryz.lays104_ren : Go.Shelf.Ren := ⟨fun | 104 => 110 | 211 => 163 | 207 => 200 | n => n, fun | 9 => 9 | 4 => 4 | 24 => 78 | 3 => 3 | n => n, fun | n => n⟩
theorem Tryz.lays104 : Go.Proofs.Lays.n104 Tryz.prog Tryz.lays104_ren := {
  mixed := by kernel_rfl
  f104 := Tryz.func110.trans (congrArg some (by kernel_rfl))
  f207 := Tryz.func200.trans (congrArg some (by kernel_rfl))
  f211 := Tryz.func163.trans (congrArg some (by kernel_rfl))
  t3 := Tryz.underlying3
  a3 := Tryz.isAgg3
  z3 := Tryz.sizeOf3
  v3 := Tryz.zeroValue3
  t4 := Tryz.underlying4
  a4 := Tryz.isAgg4
  z4 := Tryz.sizeOf4
  v4 := Tryz.zeroValue4
  t9 := Tryz.underlying9
  a9 := Tryz.isAgg9
  z9 := Tryz.sizeOf9
  v9 := Tryz.zeroValue9
  t24 := Tryz.underlying78
  a24 := Tryz.isAgg78
  z24 := Tryz.sizeOf78
  v24 := Tryz.zeroValue78 }
open Go.RowKit in
/-- strings.CutSuffix: "CutSuffix returns s without the provided ending suffix string and reports whether it found the suffix. If s doesn't end with suffix, CutSuffix returns s, false. If suffix is the empty string, CutSuffix returns s, true.": IT RETURNS '(Lib.trimSuffix s p, Lib.hasSuffix s p)'; the world is as it was. (LAID: no walk: one application.) -/
theorem Tryz.strings_CutSuffix (s p : ByteArray) (w : World) (hs : s.size ≤ 9223372036854775807) :
    Calls Tryz.prog 110 #[.string s, .string p] w fun e w' => e = .returned (.tuple #[.string ⟨(Lib.trimSuffix s.data.toList p.data.toList).toArray⟩, .bool (Lib.hasSuffix s.data.toList p.data.toList)]) ∧ w' = w := Any.strings_CutSuffix Tryz.lays104 s p w hs
open Go.RowKit in
/-- (*strings.Builder).String: "String returns the accumulated string.": WHATEVER THE BUILDER HOLDS; THE FORM '_k': OVER 'Lib.IsBuilderF' (a builder that 'String()' may have read), AND WITH THE FRAME THAT REACHES ABOVE THE BUILDER: 'Lib.OthersKept': every block that is not b and is no row of uint8's stands as it stood: the iterator of a range among them. (LAID: no walk: one application.) -/
theorem Tryz.Builder_String_any_k (B b : Nat) (l : List UInt8) (w : World) (h : Lib.IsBuilderF 204 5 B b (Lib.byteCells l) w) (hBw : B ≤ w.heap.size) :
    Calls Tryz.prog 226 #[.pointer (some ⟨b, 0, none⟩)] w fun e w' => e = .returned (.string ⟨l.toArray⟩) ∧ (Lib.IsBuilderF 204 5 B b (Lib.byteCells l) w' ∧ Below B w w' ∧ Lib.OthersKept 5 (some b) w w') := Any.Builder_String_any_k Tryz.lays169 Tryz.Builder_Extra_169 B b l w h hBw
def Tryz.lays172_ren : Go.Shelf.Ren := ⟨fun | 172 => 177 | 244 => 212 | 245 => 213 | 247 => 236 | 279 => 237 | 280 => 238 | 281 => 239 | 282 => 240 | 287 => 254 | 316 => 255 | 171 => 139 | 205 => 256 | 321 => 264 | 322 => 265 | 243 => 188 | 246 => 215 | 283 => 241 | 284 => 242 | 285 => 243 | 286 => 244 | 129 => 258 | 317 => 257 | 318 => 259 | 319 => 260 | 320 => 261 | 337 => 266 | 338 => 267 | n => n, fun | 9 => 9 | 3 => 3 | 75 => 169 | 76 => 170 | 4 => 4 | 5 => 5 | 167 => 211 | 37 => 113 | 0 => 0 | 85 => 212 | 2 => 2 | 168 => 214 | 53 => 189 | 175 => 230 | 46 => 172 | 210 => 233 | 127 => 227 | 145 => 244 | 143 => 242 | 21 => 21 | 171 => 217 | 173 => 220 | 212 => 235 | 51 => 161 | 20 => 20 | 213 => 236 | 232 => 246 | 233 => 247 | 80 => 143 | n => n, fun | 15 => 5 | 16 => 6 | 17 => 7 | 18 => 8 | 19 => 9 | n => n⟩
theorem Tryz.lays172 : Go.Proofs.Lays.n172 Tryz.prog Tryz.lays172_ren := {
  mixed := by kernel_rfl
  f129 := Tryz.func258.trans (congrArg some (by kernel_rfl))
  f171 := Tryz.func139.trans (congrArg some (by kernel_rfl))
  f172 := Tryz.func177.trans (congrArg some (by kernel_rfl))
  f205 := Tryz.func256.trans (congrArg some (by kernel_rfl))
  f243 := Tryz.func188.trans (congrArg some (by kernel_rfl))
  f244 := Tryz.func212.trans (congrArg some (by kernel_rfl))
  f245 := Tryz.func213.trans (congrArg some (by kernel_rfl))
  f246 := Tryz.func215.trans (congrArg some (by kernel_rfl))
  f247 := Tryz.func236.trans (congrArg some (by kernel_rfl))
  f279 := Tryz.func237.trans (congrArg some (by kernel_rfl))
  f280 := Tryz.func238.trans (congrArg some (by kernel_rfl))
  f281 := Tryz.func239.trans (congrArg some (by kernel_rfl))
  f282 := Tryz.func240.trans (congrArg some (by kernel_rfl))
  f283 := Tryz.func241.trans (congrArg some (by kernel_rfl))
  f284 := Tryz.func242.trans (congrArg some (by kernel_rfl))
  f285 := Tryz.func243.trans (congrArg some (by kernel_rfl))
  f286 := Tryz.func244.trans (congrArg some (by kernel_rfl))
  f287 := Tryz.func254.trans (congrArg some (by kernel_rfl))
  f316 := Tryz.func255.trans (congrArg some (by kernel_rfl))
  f317 := Tryz.func257.trans (congrArg some (by kernel_rfl))
  f318 := Tryz.func259.trans (congrArg some (by kernel_rfl))
  f319 := Tryz.func260.trans (congrArg some (by kernel_rfl))
  f320 := Tryz.func261.trans (congrArg some (by kernel_rfl))
  f321 := Tryz.func264.trans (congrArg some (by kernel_rfl))
  f322 := Tryz.func265.trans (congrArg some (by kernel_rfl))
  f337 := Tryz.func266.trans (congrArg some (by kernel_rfl))
  f338 := Tryz.func267.trans (congrArg some (by kernel_rfl))
  t0 := Tryz.underlying0
  a0 := Tryz.isAgg0
  z0 := Tryz.sizeOf0
  v0 := Tryz.zeroValue0
  t2 := Tryz.underlying2
  a2 := Tryz.isAgg2
  z2 := Tryz.sizeOf2
  v2 := Tryz.zeroValue2
  t3 := Tryz.underlying3
  a3 := Tryz.isAgg3
  z3 := Tryz.sizeOf3
  v3 := Tryz.zeroValue3
  t4 := Tryz.underlying4
  a4 := Tryz.isAgg4
  z4 := Tryz.sizeOf4
  v4 := Tryz.zeroValue4
  t5 := Tryz.underlying5
  a5 := Tryz.isAgg5
  z5 := Tryz.sizeOf5
  v5 := Tryz.zeroValue5
  t9 := Tryz.underlying9
  a9 := Tryz.isAgg9
  z9 := Tryz.sizeOf9
  v9 := Tryz.zeroValue9
  t20 := Tryz.underlying20
  a20 := Tryz.isAgg20
  z20 := Tryz.sizeOf20
  v20 := Tryz.zeroValue20
  t21 := Tryz.underlying21
  a21 := Tryz.isAgg21
  z21 := Tryz.sizeOf21
  v21 := Tryz.zeroValue21
  t37 := Tryz.underlying113
  a37 := Tryz.isAgg113
  z37 := Tryz.sizeOf113
  v37 := Tryz.zeroValue113
  t46 := Tryz.underlying172
  a46 := Tryz.isAgg172
  z46 := Tryz.sizeOf172
  v46 := Tryz.zeroValue172
  t51 := Tryz.underlying161
  a51 := Tryz.isAgg161
  z51 := Tryz.sizeOf161
  v51 := Tryz.zeroValue161
  t53 := Tryz.underlying189
  a53 := Tryz.isAgg189
  z53 := Tryz.sizeOf189
  v53 := Tryz.zeroValue189
  t75 := Tryz.underlying169
  a75 := Tryz.isAgg169
  z75 := Tryz.sizeOf169
  v75 := Tryz.zeroValue169
  t76 := Tryz.underlying170
  a76 := Tryz.isAgg170
  z76 := Tryz.sizeOf170
  v76 := Tryz.zeroValue170
  t85 := Tryz.underlying212
  a85 := Tryz.isAgg212
  z85 := Tryz.sizeOf212
  v85 := Tryz.zeroValue212
  t127 := Tryz.underlying227
  a127 := Tryz.isAgg227
  z127 := Tryz.sizeOf227
  v127 := Tryz.zeroValue227
  t143 := Tryz.underlying242
  a143 := Tryz.isAgg242
  z143 := Tryz.sizeOf242
  v143 := Tryz.zeroValue242
  t145 := Tryz.underlying244
  a145 := Tryz.isAgg244
  z145 := Tryz.sizeOf244
  v145 := Tryz.zeroValue244
  t167 := Tryz.underlying211
  a167 := Tryz.isAgg211
  z167 := Tryz.sizeOf211
  v167 := Tryz.zeroValue211
  t168 := Tryz.underlying214
  a168 := Tryz.isAgg214
  z168 := Tryz.sizeOf214
  v168 := Tryz.zeroValue214
  t171 := Tryz.underlying217
  a171 := Tryz.isAgg217
  z171 := Tryz.sizeOf217
  v171 := Tryz.zeroValue217
  t173 := Tryz.underlying220
  a173 := Tryz.isAgg220
  z173 := Tryz.sizeOf220
  v173 := Tryz.zeroValue220
  t175 := Tryz.underlying230
  a175 := Tryz.isAgg230
  z175 := Tryz.sizeOf230
  v175 := Tryz.zeroValue230
  t210 := Tryz.underlying233
  a210 := Tryz.isAgg233
  z210 := Tryz.sizeOf233
  v210 := Tryz.zeroValue233
  t212 := Tryz.underlying235
  a212 := Tryz.isAgg235
  z212 := Tryz.sizeOf235
  v212 := Tryz.zeroValue235
  t213 := Tryz.underlying236
  a213 := Tryz.isAgg236
  z213 := Tryz.sizeOf236
  t232 := Tryz.underlying246
  a232 := Tryz.isAgg246
  z232 := Tryz.sizeOf246
  v232 := Tryz.zeroValue246
  t233 := Tryz.underlying247
  a233 := Tryz.isAgg247
  z233 := Tryz.sizeOf247
  v233 := Tryz.zeroValue247
  g15 := by kernel_rfl
  g16 := by kernel_rfl
  g17 := by kernel_rfl
  g18 := by kernel_rfl
  g19 := by kernel_rfl }
open Go.RowKit in
/-- strconv.Atoi: "Atoi is equivalent to ParseInt(s, 10, 0), converted to type int.": AT A DECIMAL NUMERAL OF AT MOST 18 BYTES: its value, and a nil error. The world behind the call: the one new row that the library's '[]byte(s)' lays. (LAID: no walk: one application.) -/
theorem Tryz.strconv_Atoi (s : ByteArray) (n : Int) (hl : s.size ≤ 18) (h : Lib.atoi s.data.toList = some n) (w : World) :
    Calls Tryz.prog 177 #[.string s] w fun e w' => e = .returned (.tuple #[.int .i64 n, .nilIface]) ∧ ∃ t, w' = Lib.bytesWorld w 5 t := Any.strconv_Atoi Tryz.lays172 s n hl h w
def Tryz.laysM171_ren : Go.Shelf.Ren := ⟨fun | 171 => 139 | 243 => 188 | 246 => 215 | 283 => 241 | 284 => 242 | 285 => 243 | 286 => 244 | 129 => 258 | 317 => 257 | 318 => 259 | 319 => 260 | 320 => 261 | 337 => 266 | 338 => 267 | n => n, fun | 3 => 3 | 9 => 9 | 2 => 2 | 4 => 4 | 171 => 217 | 0 => 0 | 53 => 189 | 37 => 113 | 5 => 5 | 173 => 220 | 212 => 235 | 51 => 161 | 20 => 20 | 213 => 236 | 46 => 172 | 232 => 246 | 233 => 247 | n => n, fun | 17 => 7 | 18 => 8 | 19 => 9 | n => n⟩
theorem Tryz.laysM171 : Go.Proofs.LaysM.n171 Tryz.prog Tryz.laysM171_ren := {
  mixed := by kernel_rfl
  f129 := Tryz.func258.trans (congrArg some (by kernel_rfl))
  f171 := Tryz.func139.trans (congrArg some (by kernel_rfl))
  f243 := Tryz.func188.trans (congrArg some (by kernel_rfl))
  f246 := Tryz.func215.trans (congrArg some (by kernel_rfl))
  f283 := Tryz.func241.trans (congrArg some (by kernel_rfl))
  f284 := Tryz.func242.trans (congrArg some (by kernel_rfl))
  f285 := Tryz.func243.trans (congrArg some (by kernel_rfl))
  f286 := Tryz.func244.trans (congrArg some (by kernel_rfl))
  f317 := Tryz.func257.trans (congrArg some (by kernel_rfl))
  f318 := Tryz.func259.trans (congrArg some (by kernel_rfl))
  f319 := Tryz.func260.trans (congrArg some (by kernel_rfl))
  f320 := Tryz.func261.trans (congrArg some (by kernel_rfl))
  f337 := Tryz.func266.trans (congrArg some (by kernel_rfl))
  f338 := Tryz.func267.trans (congrArg some (by kernel_rfl))
  t0 := Tryz.underlying0
  a0 := Tryz.isAgg0
  z0 := Tryz.sizeOf0
  v0 := Tryz.zeroValue0
  t2 := Tryz.underlying2
  a2 := Tryz.isAgg2
  z2 := Tryz.sizeOf2
  v2 := Tryz.zeroValue2
  t3 := Tryz.underlying3
  a3 := Tryz.isAgg3
  z3 := Tryz.sizeOf3
  v3 := Tryz.zeroValue3
  t4 := Tryz.underlying4
  a4 := Tryz.isAgg4
  z4 := Tryz.sizeOf4
  v4 := Tryz.zeroValue4
  t5 := Tryz.underlying5
  a5 := Tryz.isAgg5
  z5 := Tryz.sizeOf5
  v5 := Tryz.zeroValue5
  t9 := Tryz.underlying9
  a9 := Tryz.isAgg9
  z9 := Tryz.sizeOf9
  v9 := Tryz.zeroValue9
  t20 := Tryz.underlying20
  a20 := Tryz.isAgg20
  z20 := Tryz.sizeOf20
  v20 := Tryz.zeroValue20
  t37 := Tryz.underlying113
  a37 := Tryz.isAgg113
  z37 := Tryz.sizeOf113
  v37 := Tryz.zeroValue113
  t46 := Tryz.underlying172
  a46 := Tryz.isAgg172
  z46 := Tryz.sizeOf172
  v46 := Tryz.zeroValue172
  t51 := Tryz.underlying161
  a51 := Tryz.isAgg161
  z51 := Tryz.sizeOf161
  v51 := Tryz.zeroValue161
  t53 := Tryz.underlying189
  a53 := Tryz.isAgg189
  z53 := Tryz.sizeOf189
  v53 := Tryz.zeroValue189
  t171 := Tryz.underlying217
  a171 := Tryz.isAgg217
  z171 := Tryz.sizeOf217
  v171 := Tryz.zeroValue217
  t173 := Tryz.underlying220
  a173 := Tryz.isAgg220
  z173 := Tryz.sizeOf220
  v173 := Tryz.zeroValue220
  t212 := Tryz.underlying235
  a212 := Tryz.isAgg235
  z212 := Tryz.sizeOf235
  v212 := Tryz.zeroValue235
  t213 := Tryz.underlying236
  a213 := Tryz.isAgg236
  z213 := Tryz.sizeOf236
  t232 := Tryz.underlying246
  a232 := Tryz.isAgg246
  z232 := Tryz.sizeOf246
  v232 := Tryz.zeroValue246
  t233 := Tryz.underlying247
  a233 := Tryz.isAgg247
  z233 := Tryz.sizeOf247
  v233 := Tryz.zeroValue247
  g17 := by kernel_rfl
  g18 := by kernel_rfl
  g19 := by kernel_rfl
  i0 := by kernel_rfl
  i2 := by kernel_rfl
  i3 := by kernel_rfl
  i4 := by kernel_rfl
  i5 := by kernel_rfl
  i9 := by kernel_rfl
  i20 := by kernel_rfl
  i37 := by kernel_rfl
  i46 := by kernel_rfl
  i51 := by kernel_rfl
  i53 := by kernel_rfl
  i171 := by kernel_rfl
  i173 := by kernel_rfl
  i212 := by kernel_rfl
  i232 := by kernel_rfl
  i233 := by kernel_rfl
  m17 := by kernel_rfl
  m18 := by kernel_rfl
  m19 := by kernel_rfl }
open Go.RowKit Go.Sort Go.Lib in
/-- strconv.Itoa: "Itoa is equivalent to FormatInt(int64(i), 10).": i's DECIMAL NUMERAL ('Lib.itoa': a '-' where i is negative, then the digits), FOR EVERY int. The world behind the call: the world before it, new blocks behind the heap (the library's 'var a [24]byte'), draws. (LAID: no walk: one application.) -/
theorem Tryz.strconv_Itoa (n : Int) (h0 : -9223372036854775808 ≤ n) (h1 : n ≤ 9223372036854775807) (w : World) (htab : Lib.TabIs Tryz.prog w "internal/strconv.uint64pow10" .u64 Lib.pow10Tab) :
    Calls Tryz.prog 139 #[.int .i64 n] w fun e w' => e = .returned (.string ⟨(Lib.itoa n).toArray⟩) ∧ ∃ k os, w' = grow (w.drewN k) os := Any.strconv_Itoa Tryz.laysM171 n h0 h1 w htab
def Tryz.lays99_ren : Go.Shelf.Ren := ⟨fun | 99 => 162 | 206 => 160 | n => n, fun | 9 => 9 | 4 => 4 | 3 => 3 | n => n, fun | n => n⟩
theorem Tryz.lays99 : Go.Proofs.Lays.n99 Tryz.prog Tryz.lays99_ren := {
  mixed := by kernel_rfl
  f99 := Tryz.func162.trans (congrArg some (by kernel_rfl))
  f206 := Tryz.func160.trans (congrArg some (by kernel_rfl))
  t3 := Tryz.underlying3
  a3 := Tryz.isAgg3
  z3 := Tryz.sizeOf3
  v3 := Tryz.zeroValue3
  t4 := Tryz.underlying4
  a4 := Tryz.isAgg4
  z4 := Tryz.sizeOf4
  v4 := Tryz.zeroValue4
  t9 := Tryz.underlying9
  a9 := Tryz.isAgg9
  z9 := Tryz.sizeOf9
  v9 := Tryz.zeroValue9 }
open Go.RowKit Go.Lib in
/-- strings.HasPrefix: "HasPrefix reports whether the string s begins with prefix.": IT RETURNS 'Lib.hasPrefix s prefix'; the world is as it was. (LAID: no walk: one application.) -/
theorem Tryz.strings_HasPrefix (s p : ByteArray) (w : World) :
    Calls Tryz.prog 162 #[.string s, .string p] w fun e w' => e = .returned (.bool (Lib.hasPrefix s.data.toList p.data.toList)) ∧ w' = w := Any.strings_HasPrefix Tryz.lays99 s p w
def Tryz.lays101_ren : Go.Shelf.Ren := ⟨fun | 101 => 108 | 208 => 161 | 206 => 160 | n => n, fun | 9 => 9 | 4 => 4 | 3 => 3 | n => n, fun | n => n⟩
theorem Tryz.lays101 : Go.Proofs.Lays.n101 Tryz.prog Tryz.lays101_ren := {
  mixed := by kernel_rfl
  f101 := Tryz.func108.trans (congrArg some (by kernel_rfl))
  f206 := Tryz.func160.trans (congrArg some (by kernel_rfl))
  f208 := Tryz.func161.trans (congrArg some (by kernel_rfl))
  t3 := Tryz.underlying3
  a3 := Tryz.isAgg3
  z3 := Tryz.sizeOf3
  v3 := Tryz.zeroValue3
  t4 := Tryz.underlying4
  a4 := Tryz.isAgg4
  z4 := Tryz.sizeOf4
  v4 := Tryz.zeroValue4
  t9 := Tryz.underlying9
  a9 := Tryz.isAgg9
  z9 := Tryz.sizeOf9
  v9 := Tryz.zeroValue9 }
open Go.RowKit Go.Lib in
/-- strings.TrimPrefix: "TrimPrefix returns s without the provided leading prefix string. If s doesn't start with prefix, s is returned unchanged.": IT RETURNS 'Lib.trimPrefix s prefix'; the world is as it was. (LAID: no walk: one application.) -/
theorem Tryz.strings_TrimPrefix (s p : ByteArray) (w : World) :
    Calls Tryz.prog 108 #[.string s, .string p] w fun e w' => e = .returned (.string ⟨(Lib.trimPrefix s.data.toList p.data.toList).toArray⟩) ∧ w' = w := Any.strings_TrimPrefix Tryz.lays101 s p w
def Tryz.lays197_ren : Go.Shelf.Ren := ⟨fun | 197 => 105 | 260 => 159 | n => n, fun | 9 => 9 | 21 => 21 | 3 => 3 | 4 => 4 | 5 => 5 | 105 => 111 | 119 => 183 | 0 => 0 | 46 => 172 | 139 => 186 | 138 => 185 | n => n, fun | 3 => 2 | 4 => 3 | n => n⟩
theorem Tryz.lays197 : Go.Proofs.Lays.n197 Tryz.prog Tryz.lays197_ren := {
  mixed := by kernel_rfl
  f197 := Tryz.func105.trans (congrArg some (by kernel_rfl))
  f260 := Tryz.func159.trans (congrArg some (by kernel_rfl))
  t0 := Tryz.underlying0
  a0 := Tryz.isAgg0
  z0 := Tryz.sizeOf0
  v0 := Tryz.zeroValue0
  t3 := Tryz.underlying3
  a3 := Tryz.isAgg3
  z3 := Tryz.sizeOf3
  v3 := Tryz.zeroValue3
  t4 := Tryz.underlying4
  a4 := Tryz.isAgg4
  z4 := Tryz.sizeOf4
  v4 := Tryz.zeroValue4
  t5 := Tryz.underlying5
  a5 := Tryz.isAgg5
  z5 := Tryz.sizeOf5
  v5 := Tryz.zeroValue5
  t9 := Tryz.underlying9
  a9 := Tryz.isAgg9
  z9 := Tryz.sizeOf9
  v9 := Tryz.zeroValue9
  t21 := Tryz.underlying21
  a21 := Tryz.isAgg21
  z21 := Tryz.sizeOf21
  v21 := Tryz.zeroValue21
  t46 := Tryz.underlying172
  a46 := Tryz.isAgg172
  z46 := Tryz.sizeOf172
  v46 := Tryz.zeroValue172
  t105 := Tryz.underlying111
  a105 := Tryz.isAgg111
  z105 := Tryz.sizeOf111
  v105 := Tryz.zeroValue111
  t119 := Tryz.underlying183
  a119 := Tryz.isAgg183
  z119 := Tryz.sizeOf183
  t138 := Tryz.underlying185
  a138 := Tryz.isAgg185
  z138 := Tryz.sizeOf185
  v138 := Tryz.zeroValue185
  t139 := Tryz.underlying186
  a139 := Tryz.isAgg186
  z139 := Tryz.sizeOf186
  v139 := Tryz.zeroValue186
  g3 := by kernel_rfl
  g4 := by kernel_rfl }
def Tryz.lays105_ren : Go.Shelf.Ren := ⟨fun | 105 => 202 | 212 => 222 | 99 => 162 | 165 => 223 | 166 => 224 | 170 => 225 | 169 => 226 | 263 => 247 | 264 => 248 | 206 => 160 | 240 => 249 | 241 => 250 | 276 => 262 | 277 => 263 | n => n, fun | 9 => 9 | 3 => 3 | 4 => 4 | 20 => 20 | 0 => 0 | 46 => 172 | 109 => 200 | 5 => 5 | 72 => 204 | 76 => 170 | 51 => 161 | 146 => 223 | 53 => 189 | 148 => 225 | 70 => 202 | 37 => 113 | 75 => 169 | 127 => 227 | 164 => 238 | 80 => 143 | n => n, fun | n => n⟩
theorem Tryz.lays105 : Go.Proofs.Lays.n105 Tryz.prog Tryz.lays105_ren := {
  mixed := by kernel_rfl
  f99 := Tryz.func162.trans (congrArg some (by kernel_rfl))
  f105 := Tryz.func202.trans (congrArg some (by kernel_rfl))
  f165 := Tryz.func223.trans (congrArg some (by kernel_rfl))
  f166 := Tryz.func224.trans (congrArg some (by kernel_rfl))
  f169 := Tryz.func226.trans (congrArg some (by kernel_rfl))
  f170 := Tryz.func225.trans (congrArg some (by kernel_rfl))
  f206 := Tryz.func160.trans (congrArg some (by kernel_rfl))
  f212 := Tryz.func222.trans (congrArg some (by kernel_rfl))
  f240 := Tryz.func249.trans (congrArg some (by kernel_rfl))
  f241 := Tryz.func250.trans (congrArg some (by kernel_rfl))
  f263 := Tryz.func247.trans (congrArg some (by kernel_rfl))
  f264 := Tryz.func248.trans (congrArg some (by kernel_rfl))
  f276 := Tryz.func262.trans (congrArg some (by kernel_rfl))
  f277 := Tryz.func263.trans (congrArg some (by kernel_rfl))
  t0 := Tryz.underlying0
  a0 := Tryz.isAgg0
  z0 := Tryz.sizeOf0
  v0 := Tryz.zeroValue0
  t3 := Tryz.underlying3
  a3 := Tryz.isAgg3
  z3 := Tryz.sizeOf3
  v3 := Tryz.zeroValue3
  t4 := Tryz.underlying4
  a4 := Tryz.isAgg4
  z4 := Tryz.sizeOf4
  v4 := Tryz.zeroValue4
  t5 := Tryz.underlying5
  a5 := Tryz.isAgg5
  z5 := Tryz.sizeOf5
  v5 := Tryz.zeroValue5
  t9 := Tryz.underlying9
  a9 := Tryz.isAgg9
  z9 := Tryz.sizeOf9
  v9 := Tryz.zeroValue9
  t20 := Tryz.underlying20
  a20 := Tryz.isAgg20
  z20 := Tryz.sizeOf20
  v20 := Tryz.zeroValue20
  t37 := Tryz.underlying113
  a37 := Tryz.isAgg113
  z37 := Tryz.sizeOf113
  v37 := Tryz.zeroValue113
  t46 := Tryz.underlying172
  a46 := Tryz.isAgg172
  z46 := Tryz.sizeOf172
  v46 := Tryz.zeroValue172
  t51 := Tryz.underlying161
  a51 := Tryz.isAgg161
  z51 := Tryz.sizeOf161
  v51 := Tryz.zeroValue161
  t53 := Tryz.underlying189
  a53 := Tryz.isAgg189
  z53 := Tryz.sizeOf189
  v53 := Tryz.zeroValue189
  t70 := Tryz.underlying202
  a70 := Tryz.isAgg202
  z70 := Tryz.sizeOf202
  v70 := Tryz.zeroValue202
  t72 := Tryz.underlying204
  a72 := Tryz.isAgg204
  z72 := Tryz.sizeOf204
  v72 := Tryz.zeroValue204
  t75 := Tryz.underlying169
  a75 := Tryz.isAgg169
  z75 := Tryz.sizeOf169
  v75 := Tryz.zeroValue169
  t76 := Tryz.underlying170
  a76 := Tryz.isAgg170
  z76 := Tryz.sizeOf170
  v76 := Tryz.zeroValue170
  t109 := Tryz.underlying200
  a109 := Tryz.isAgg200
  z109 := Tryz.sizeOf200
  v109 := Tryz.zeroValue200
  t127 := Tryz.underlying227
  a127 := Tryz.isAgg227
  z127 := Tryz.sizeOf227
  v127 := Tryz.zeroValue227
  t146 := Tryz.underlying223
  a146 := Tryz.isAgg223
  z146 := Tryz.sizeOf223
  v146 := Tryz.zeroValue223
  t148 := Tryz.underlying225
  a148 := Tryz.isAgg225
  z148 := Tryz.sizeOf225
  v148 := Tryz.zeroValue225
  t164 := Tryz.underlying238
  a164 := Tryz.isAgg238
  z164 := Tryz.sizeOf238
  v164 := Tryz.zeroValue238 }
theorem Tryz.Builder_Extra_105 : Builder.Extra Tryz.prog Tryz.lays105_ren := {
  sizeBuilder := by kernel_rfl
  liesBuilder := by kernel_rfl
  t5 := Tryz.underlying5
  a5 := Tryz.isAgg5
  z5 := Tryz.sizeOf5
  v5 := Tryz.zeroValue5
  infoByte := by kernel_rfl
  cellsByte := by kernel_rfl
  sizeByte := by kernel_rfl
  neB5 := by decide }
open Go.RowKit Go.Lib in
/-- THE MAIN CASE: at least two copies of a string that is not empty. (LAID: no walk: one application.) -/
theorem Tryz.strings_Repeat_main (s : ByteArray) (c : Nat) (w : World) (hc2 : 2 ≤ c) (hc : c ≤ 9223372036854775807) (hlen : s.size * c ≤ 140737488355328) (h0 : 0 < s.size) :
    Calls Tryz.prog 202 #[.string s, .int .i64 c] w fun e w' => e = .returned (.string ⟨(Lib.repeatL s.data.toList c).toArray⟩) ∧ Below w.heap.size w w' := Any.strings_Repeat_main Tryz.lays105 Tryz.Builder_Extra_105 s c w hc2 hc hlen h0
open Go.RowKit Go.Lib in
theorem Tryz.strings_Repeat_zero (s : ByteArray) (w : World) :
    Calls Tryz.prog 202 #[.string s, .int .i64 0] w fun e w' => e = .returned (.string ⟨#[]⟩) ∧ w' = w := Any.strings_Repeat_zero Tryz.lays105 s w
open Go.RowKit Go.Lib in
theorem Tryz.strings_Repeat_one (s : ByteArray) (w : World) :
    Calls Tryz.prog 202 #[.string s, .int .i64 1] w fun e w' => e = .returned (.string s) ∧ w' = w := Any.strings_Repeat_one Tryz.lays105 s w
open Go.RowKit Go.Lib in
/-- **unicode/utf8.DecodeRuneInString AT EVERY STRING.** (LAID: no walk: one application.) -/
theorem Tryz.utf8_DecodeRuneInString (s : ByteArray) (w : World) (hT : Lib.Utf8Tabs 2 3 w) :
    Calls Tryz.prog 105 #[.string s] w fun e w' => e = .returned (.tuple #[.int .i32 (Lib.decodeGo s).1, .int .i64 (Lib.decodeGo s).2]) ∧ Below w.heap.size w w' := Any.utf8_DecodeRuneInString Tryz.lays197 s w hT
end Go.Proofs
namespace Go.Proofs
open Go.Shelf
def Tryz.lays166_ren : Go.Shelf.Ren := ⟨fun | 166 => 224 | 240 => 249 | 276 => 262 | n => n, fun | 0 => 0 | 3 => 3 | 4 => 4 | 5 => 5 | 9 => 9 | 20 => 20 | 37 => 113 | 70 => 202 | 72 => 204 | 75 => 169 | 80 => 143 | 164 => 238 | n => n, fun | n => n⟩
theorem Tryz.lays166 : Go.Proofs.Lays.n166 Tryz.prog Tryz.lays166_ren := {
  mixed := by kernel_rfl
  f166 := Tryz.func224.trans (congrArg some (by kernel_rfl))
  f240 := Tryz.func249.trans (congrArg some (by kernel_rfl))
  f276 := Tryz.func262.trans (congrArg some (by kernel_rfl))
  t0 := Tryz.underlying0
  a0 := Tryz.isAgg0
  z0 := Tryz.sizeOf0
  v0 := Tryz.zeroValue0
  t3 := Tryz.underlying3
  a3 := Tryz.isAgg3
  z3 := Tryz.sizeOf3
  v3 := Tryz.zeroValue3
  t4 := Tryz.underlying4
  a4 := Tryz.isAgg4
  z4 := Tryz.sizeOf4
  v4 := Tryz.zeroValue4
  t9 := Tryz.underlying9
  a9 := Tryz.isAgg9
  z9 := Tryz.sizeOf9
  v9 := Tryz.zeroValue9
  t20 := Tryz.underlying20
  a20 := Tryz.isAgg20
  z20 := Tryz.sizeOf20
  v20 := Tryz.zeroValue20
  t37 := Tryz.underlying113
  a37 := Tryz.isAgg113
  z37 := Tryz.sizeOf113
  v37 := Tryz.zeroValue113
  t70 := Tryz.underlying202
  a70 := Tryz.isAgg202
  z70 := Tryz.sizeOf202
  v70 := Tryz.zeroValue202
  t72 := Tryz.underlying204
  a72 := Tryz.isAgg204
  z72 := Tryz.sizeOf204
  v72 := Tryz.zeroValue204
  t75 := Tryz.underlying169
  a75 := Tryz.isAgg169
  z75 := Tryz.sizeOf169
  v75 := Tryz.zeroValue169
  t164 := Tryz.underlying238
  a164 := Tryz.isAgg238
  z164 := Tryz.sizeOf238
  v164 := Tryz.zeroValue238 }
theorem Tryz.Builder_Extra_166 : Builder.Extra Tryz.prog Tryz.lays166_ren := {
  sizeBuilder := by kernel_rfl
  liesBuilder := by kernel_rfl
  t5 := Tryz.underlying5
  a5 := Tryz.isAgg5
  z5 := Tryz.sizeOf5
  v5 := Tryz.zeroValue5
  infoByte := by kernel_rfl
  cellsByte := by kernel_rfl
  sizeByte := by kernel_rfl
  neB5 := by decide }
open Go.RowKit in
theorem Tryz.Builder_WriteString_k (B b : Nat) (bs : List Value) (s : ByteArray) (w : World) (h : Lib.IsBuilderF 204 5 B b bs w) (hlen : bs.length + s.size ≤ 140737488355328) (hBw : B ≤ w.heap.size) :
    Calls Tryz.prog 224 #[.pointer (some ⟨b, 0, none⟩), .string s] w fun e w' => e = .returned (.tuple #[.int .i64 s.size, .nilIface]) ∧ (Lib.BuilderAtF 204 5 B b (.pointer (some ⟨b, 0, none⟩)) (bs ++ Lib.strCells s) w' ∧ Below B w w' ∧ Lib.OthersKept 5 (some b) w w') := Any.Builder_WriteString_k Tryz.lays166 Tryz.Builder_Extra_166 B b bs s w h hlen hBw
end Go.Proofs
namespace Go.Proofs.YtdkhkfdenlabaaaGreatDoor
open Go.RowKit Go.Shelf
open Sym
attribute [local go_sem] Oper.semAt_some
/-- the text behind a limb -/
def limbT (n : Nat) (p : Nat × Dg) : List UInt8 := (if p.1 + 1 < n then List.replicate (9 - (Lib.decDigits p.2.1).length) 48 else []) ++ Lib.decDigits p.2.1
def txtB (n : Nat) (ps : List (Nat × Dg)) : List UInt8 := ps.foldl (fun s p => s ++ limbT n p) []
theorem txtB_snoc (n : Nat) (ps : List (Nat × Dg)) (p : Nat × Dg) : txtB n (ps ++ [p]) = txtB n ps ++ limbT n p := by simp [txtB]
theorem dec_len {d : Nat} (h : d < 1000000000) : 1 ≤ (Lib.decDigits d).length ∧ (Lib.decDigits d).length ≤ 9 := by
  refine ⟨?_, (ExP.padk_eq 9 d (by omega) (by simpa using h)).2⟩
  rw [Lib.decDigits]
  split <;> simp
theorem limbT_len (n : Nat) (p : Nat × Dg) : (limbT n p).length ≤ 9 := by
  obtain ⟨h1, h2⟩ := dec_len p.2.2
  unfold limbT
  split <;> simp <;> omega
theorem txtB_len (n : Nat) (ps : List (Nat × Dg)) : (txtB n ps).length ≤ 9 * ps.length := by
  unfold txtB
  have : ∀ (l : List (Nat × Dg)) (s : List UInt8), (l.foldl (fun s p => s ++ limbT n p) s).length ≤ s.length + 9 * l.length := by
    intro l
    induction l with
    | nil => intro s; simp
    | cons p r ih => intro s; rw [List.foldl_cons]; have := ih (s ++ limbT n p); have h2 := limbT_len n p; simp only [List.length_append, List.length_cons] at this ⊢; omega
  simpa using this ps []
/-- the limbs of a number -/
def limb (x i : Nat) : Dg := ⟨ExP.dig 1000000000 i x, ExP.dig_lt (by omega) i x⟩
theorem top_pos {x n : Nat} (h : 0 < n) (hn : n = ExP.nd 1000000000 x) : 0 < x / 1000000000 ^ (n - 1 - 0) := by
  have h1 := (ExP.ndF_spec (b := 1000000000) (by omega) x x (Nat.le_refl _)).2
  change ExP.nd 1000000000 x = 0 ∨ 1000000000 ^ (ExP.nd 1000000000 x - 1) ≤ x at h1
  rw [← hn] at h1
  exact Nat.div_pos (by rcases h1 with h1 | h1; (omega); exact h1) (Nat.pow_pos (by omega))
theorem txt_down {x : Nat} (n : Nat) (hn : n = ExP.nd 1000000000 x) : ∀ k, k ≤ n → txtB n (downto (limb x) n k) = ExP.decE (x / 1000000000 ^ (n - k)) := by
  intro k
  induction k with
  | zero =>
    intro _
    have : x / 1000000000 ^ (n - 0) = 0 := Nat.div_eq_of_lt (by rw [hn]; exact ExP.nd_lt (by omega) x)
    rw [this]; rfl
  | succ k ih =>
    intro hk
    rw [downto_succ, txtB_snoc, ih (by omega)]
    have e1 : n - (k + 1) = n - 1 - k := by omega
    rw [e1]
    have e2 : n - k = n - 1 - k + 1 := by omega
    rw [e2]
    unfold limbT limb
    dsimp only
    rcases Nat.eq_zero_or_pos k with h0 | h0
    · subst h0
      rw [if_neg (by omega)]
      have e3 : x / 1000000000 ^ (n - 1 - 0 + 1) = 0 := Nat.div_eq_of_lt (by rw [show n - 1 - 0 + 1 = n by omega, hn]; exact ExP.nd_lt (by omega) x)
      rw [e3]
      have h1 : 0 < x / 1000000000 ^ (n - 1 - 0) := top_pos (by omega) hn
      rw [ExP.dec_pos h1]
      have e4 : ExP.dig 1000000000 (n - 1 - 0) x = x / 1000000000 ^ (n - 1 - 0) := by
        unfold ExP.dig
        apply Nat.mod_eq_of_lt
        rw [Nat.pow_succ, ← Nat.div_div_eq_div_mul] at e3
        rcases Nat.lt_or_ge (x / 1000000000 ^ (n - 1 - 0)) 1000000000 with h | h
        · exact h
        · have := Nat.div_pos h (by omega : 0 < 1000000000); omega
      rw [e4]; rfl
    · rw [if_pos (by omega)]
      refine (ExP.dec_limb (by omega) ?_).1.symm
      have := top_pos (x := x) (n := n) (by omega) hn
      exact Nat.lt_of_lt_of_le this (Nat.div_le_div_left (Nat.pow_le_pow_right (by omega) (by omega)) (Nat.pow_pos (by omega)))
end Go.Proofs.YtdkhkfdenlabaaaGreatDoor
namespace Go.Proofs.YtdkhkfdenlabaaaGreatDoor
open Go.RowKit Go.Shelf
open Sym
attribute [local go_sem] Oper.semAt_some
/-- what the library's functions ask of the world -/
structure XW (w : World) : Prop where
  tab : Lib.TabIs Tryz.prog w "internal/strconv.uint64pow10" .u64 Lib.pow10Tab
theorem XW.below {w w' : World} (h : XW w) (hb : Below w.heap.size w w') : XW w' := by
  obtain ⟨h1⟩ := h
  refine ⟨?_⟩
  unfold Lib.TabIs at h1 ⊢
  rw [← h1]
  unfold World.var?
  cases hg : Tryz.prog.globalNamed "internal/strconv.uint64pow10" with
  | none => rfl
  | some g =>
    have hlt : g < w.heap.size := by
      rcases Nat.lt_or_ge g w.heap.size with h0 | h0
      · exact h0
      · unfold World.var? at h1
        rw [hg] at h1
        simp [Array.getElem?_eq_none h0] at h1
    simp [hb.block g hlt]
theorem xgrown (w : World) (n : Nat) (os : Array Obj) : Below w.heap.size w (Go.Sort.grow (w.drewN n) os) := by
  refine ⟨rfl, rfl, rfl, by simp [Go.Sort.grow, World.drewN], fun k hk => ?_⟩
  show (w.heap ++ os)[k]? = _
  rw [Array.getElem?_append_left hk]
theorem xitoa_any (n : Nat) (w : World) (hn : n < 4294967296) (hw : XW w) : Calls Tryz.prog 139 #[.int .i64 (n : Int)] w fun e w' => e = .returned (.string ⟨(Lib.decDigits n).toArray⟩) ∧ Below w.heap.size w w' := by
  refine (Tryz.strconv_Itoa (n : Int) (by omega) (by omega) w hw.tab).mono ?_
  rintro e w' ⟨rfl, k, os, rfl⟩
  exact ⟨by rw [Lib.itoa_nonneg], xgrown w k os⟩
theorem bld_blocks {T e : TypeId} {B b : Nat} {p : Value} {bs : List Value} {W W' : World} (h : Lib.BuilderAtF T e B b p bs W) (hk : ∀ (k : Nat) (c : Array Value) (t : TypeId) (fz : Nat × Nat), W.heap[k]? = some (Obj.cells c t fz) → W'.heap[k]? = some (Obj.cells c t fz)) : Lib.BuilderAtF T e B b p bs W' := by
  obtain ⟨h1, v, h2, ⟨h3, h4⟩, h5⟩ := h
  refine ⟨h1, v, hk _ _ _ _ h2, ⟨h3, ?_⟩, h5⟩
  rcases h4 with h4 | ⟨g, cap, cur, fz, k1, k2, k3, k4⟩
  · exact .inl h4
  · exact .inr ⟨g, cap, cur, fz, k1, k2, hk _ _ _ _ k3, k4⟩
theorem bldI_blocks {T e : TypeId} {B b : Nat} {bs : List Value} {W W' : World} (h : Lib.IsBuilderF T e B b bs W) (hk : ∀ (k : Nat) (c : Array Value) (t : TypeId) (fz : Nat × Nat), W.heap[k]? = some (Obj.cells c t fz) → W'.heap[k]? = some (Obj.cells c t fz)) : Lib.IsBuilderF T e B b bs W' :=
  h.imp (fun h => bld_blocks h hk) (fun h => bld_blocks h hk)
theorem cellNew (W : World) (v : Value) (t : TypeId) : (W.alloc (.cells #[v] t)).cell? ⟨W.heap.size, 0, none⟩ = some v := by simp
theorem cellAl {W : World} {a : Addr} {v : Value} (o : Obj) (h : W.cell? a = some v) : (W.alloc o).cell? a = some v := (((Below.refl W.heap.size W).alloc (Nat.le_refl _) o).cell (p := a) (World.block_lt_of_cell? _ _ h)).trans h
abbrev zeros8 : ByteArray := { data := #[48, 48, 48, 48, 48, 48, 48, 48] }
theorem pad_cells (m : Nat) (h : m ≤ 8) : Lib.strCells (zeros8.extract 0 m) = Lib.byteCells (List.replicate m 48) ∧ (zeros8.extract 0 m).size ≤ 8 := by
  have : m = 0 ∨ m = 1 ∨ m = 2 ∨ m = 3 ∨ m = 4 ∨ m = 5 ∨ m = 6 ∨ m = 7 ∨ m = 8 := by omega
  rcases this with rfl | rfl | rfl | rfl | rfl | rfl | rfl | rfl | rfl <;> exact ⟨by rfl, by decide⟩
theorem strCells_arr (l : List UInt8) : Lib.strCells ⟨l.toArray⟩ = Lib.byteCells l := by simp [Lib.strCells, Lib.byteCells]
attribute [local irreducible] CallsIn ByteArray.extract
theorem others_below {e : TypeId} {b : Option Nat} {W W' : World} (h : Below W.heap.size W W') : Lib.OthersKept e b W W' := fun k o hk _ _ => by
  have hlt : k < W.heap.size := by
    rcases Nat.lt_or_ge k W.heap.size with h0 | h0
    · exact h0
    · rw [Array.getElem?_eq_none h0] at hk; cases hk
  rw [h.block k hlt]; exact hk
theorem cells_below {W W' : World} (h : Below W.heap.size W W') : ∀ (k : Nat) (c : Array Value) (t : TypeId) (fz : Nat × Nat), W.heap[k]? = some (Obj.cells c t fz) → W'.heap[k]? = some (Obj.cells c t fz) := fun k c t fz hk => by
  have hlt : k < W.heap.size := by
    rcases Nat.lt_or_ge k W.heap.size with h0 | h0
    · exact h0
    · rw [Array.getElem?_eq_none h0] at hk; cases hk
  rw [h.block k hlt]; exact hk
theorem bld_cells {T e : TypeId} {B b : Nat} {bs : List Value} {W : World} (h : Lib.IsBuilderF T e B b bs W) : ∃ c t fz, W.heap[b]? = some (Obj.cells c t fz) := by
  rcases h with ⟨_, v, h, _⟩ | ⟨_, v, h, _⟩ <;> exact ⟨_, _, _, h⟩
theorem body_end {n1 : Nat} {v : Value} {bs : List Value} {W wE : World} (hbl : Lib.IsBuilderF 204 5 n1 n1 bs W) (hbs : W.heap[n1 + 1]? = some (.cells #[v] 137 (0, 0))) (ho : Lib.OthersKept 5 (some n1) W wE) (hB : Below n1 W wE) :
    KeepsOthers W wE ∧ KpB n1 (n1 + 1) W wE ∧ wE.heap[n1 + 1]? = some (.cells #[v] 137 (0, 0)) := by
  have h1 : wE.heap[n1 + 1]? = some (.cells #[v] 137 (0, 0)) := ho _ _ hbs (by simp) (fun c fz e => by cases e)
  obtain ⟨c, t, fz, h2⟩ := bld_cells hbl
  refine ⟨⟨hB.size, fun k o hk hc => ho k o hk (fun e => ?_) (fun c fz e => by subst e; cases hc)⟩, fun p u hp hu => ?_, h1⟩
  · cases e; rw [h2] at hk; cases hk; cases hc
  · rcases hp with hp | hp
    · exact (hB.cell hp).trans hu
    · have e1 : wE.heap[p.block]? = W.heap[p.block]? := by rw [hp, h1, hbs]
      rw [World.cell?_of_block (w := W) e1]; exact hu
set_option maxRecDepth 100000 in
set_option maxHeartbeats 4000000 in
theorem text_pos (ad : Addr) (cap x : Nat) (w : World) (hw : XW w) (hx0 : 0 < x) (hx : ExP.nd 1000000000 x ≤ 1000000) (hs : SlAt (some ad) (nv .u32 1000000000 x) w) (hb0 : ad.block < w.heap.size) :
    Calls Tryz.prog 204 #[.slice (some ad) (ExP.nd 1000000000 x) cap] w fun e w' => e = .returned (.string ⟨(Lib.decDigits x).toArray⟩) ∧ Below w.heap.size w w' := by
  refine (callsIn_wide (n := 8)).1 ?_
  refine callsIn_of_wp_marks Tryz.func204 rfl trivial ?_ rfl
  simp only [Tryz.ntmps204, List.size_toArray, List.length_cons, List.length_nil, Nat.reduceAdd, Nat.reduceSub, Array.replicate_succ, Array.replicate_zero, List.push_toArray, List.append_toArray, List.nil_append, List.cons_append]
  have hz := fun (w' : World) => zero_any (some ad) (ExP.nd 1000000000 x) cap w'
  rw [show decide ((ExP.nd 1000000000 x : Int) = 0) = false from decide_eq_false (by have := (ExP.nd_pos (b := 1000000000) (by omega)).2 hx0; omega)] at hz
  generalize hn : ExP.nd 1000000000 x = n at *
  gi_wp2_with first | (refine ⟨trivial, ?_⟩; gi_at_call 172; refine (callsIn_wide.2 (hz _)).mono ?_; rintro e w1 ⟨rfl, hb1⟩; have hc1 := (hb1.cell (p := ⟨w.heap.size, 0, none⟩) (by simp)).trans (cellNew w _ _); have hc2 := fun (o : Obj) => cellAl o hc1) | (refine ⟨trivial, ?_⟩; gi_at_call 228; refine (back_in Fence.wide _ trivial rfl _ _ _ _).mono ?_; rintro e w' ⟨rfl, rfl⟩)
  have hsz1 : w.heap.size + 1 ≤ w1.heap.size := by simpa using hb1.size
  have hB1 : Below w.heap.size w w1 := ((Below.refl _ w).alloc (Nat.le_refl _) _).trans (hb1.mono (by simp))
  have hBs : ((w1.alloc (.cells #[.pointer none, .slice none 0 0] 204)).alloc (.cells #[.slice (some ad) n cap] 137)).heap[w1.heap.size + 1]? = some (.cells #[.slice (some ad) n cap] 137 (0, 0)) := by
    have := World.alloc_heap_new (w1.alloc (.cells #[.pointer none, .slice none 0 0] 204)) (.cells #[.slice (some ad) n cap] 137)
    simpa using this
  have hbd : ((w1.alloc (.cells #[.pointer none, .slice none 0 0] 204)).alloc (.cells #[.slice (some ad) n cap] 137)).heap[w1.heap.size]? = some (.cells #[.pointer none, .slice none 0 0] 204 (0, 0)) :=
    (Below.heap_alloc _ _ _ (by simp)).trans (World.alloc_heap_new w1 _)
  have hB0 : Below w1.heap.size w1 ((w1.alloc (.cells #[.pointer none, .slice none 0 0] 204)).alloc (.cells #[.slice (some ad) n cap] 137)) := ((Below.refl _ w1).alloc (Nat.le_refl _) _).alloc (by simp) _
  have hs0 : ((w1.alloc (.cells #[.pointer none, .slice none 0 0] 204)).alloc (.cells #[.slice (some ad) n cap] 137)).heap.size = w1.heap.size + 2 := by simp
  obtain ⟨W0, hW0⟩ : ∃ W0, ((w1.alloc (.cells #[.pointer none, .slice none 0 0] 204)).alloc (.cells #[.slice (some ad) n cap] 137)) = W0 := ⟨_, rfl⟩
  rw [hW0] at hBs hbd hB0 hs0
  rw [hW0]
  have hcells : ∀ j, j < n → W0.cell? (ad.add j) = some (.int .u32 ((limb x j).1 : Int)) := fun j hj => by
    obtain ⟨ad', e, h1, h2⟩ := (hs.below (hB1.trans (hB0.mono (by omega)))) j _ (nv_get (by rw [hn]; exact hj))
    cases e
    exact h2
  refine wpIn_rangeFunc_ownF rfl (by omega) (gf := 251) (lb := #[.pointer (some ⟨w1.heap.size + 1, 0, none⟩)]) rfl trivial (enters_of Tryz.func251 (by kernel_rfl) rfl)
    (back_stops Fence.wide _ trivial rfl (by omega) (w1.heap.size + 1) w1.heap.size n cap ad (limb x) (by omega) W0 (by omega) (by omega) (by omega) (by simp [World.cell?, hBs]) hcells) (fun h k => h.trans k) (fun W l o o' hl ho hoc _ p v hp hv => ?kb) (Below.refl _ _) (fun _ => rfl)
    (fun pre W => (Lib.IsBuilderF 204 5 w1.heap.size w1.heap.size (Lib.byteCells (txtB n pre)) W ∧ W.heap[w1.heap.size + 1]? = some (.cells #[.slice (some ad) n cap] 137 (0, 0))) ∧ Below w1.heap.size w1 W ∧ w1.heap.size + 2 ≤ W.heap.size)
    (fun _ _ _ => False)
    ?own
    (fun _ _ _ _ _ hs _ _ => hs)
    ⟨⟨.inl ⟨Nat.le_refl _, .slice none 0 0, hbd, ⟨rfl, .inl ⟨rfl, rfl⟩⟩, by simp [Value.ownBlock]⟩, hBs⟩, hB0, by omega⟩
    (fun x => { tmps := #[.slice (some ad) n cap, .pointer (some ⟨w.heap.size, 0, none⟩), .string { data := #[] }, .pointer (some ⟨w1.heap.size, 0, none⟩), .int .i64 (x.1 : Int), .int .u32 (x.2.1 : Int), undef, .slice (some ad) n cap, .bool false, .slice (some ad) n cap, .func (.func 251) #[] #[.pointer (some ⟨w1.heap.size + 1, 0, none⟩)], .int .i64 (x.1 : Int), .int .u32 (x.2.1 : Int), undef, undef, undef, undef, undef, undef, undef, undef, undef, undef, undef, undef, undef, undef, undef, undef], defers := [] }) ?assign ?body ?done ?stop
  case kb => exact cell_kept hv (grownBy_putObj' W l o') (fun r e => by cases e; exact ⟨o, ho, hoc⟩)
  case own =>
    rintro s A B row ⟨⟨g1, g2⟩, g3, g4⟩ hg hr
    have hk : ∀ (k : Nat) (c : Array Value) (t : TypeId) (fz : Nat × Nat), A.heap[k]? = some (Obj.cells c t fz) → B.heap[k]? = some (Obj.cells c t fz) := fun k c t fz h => by
      have hlt : k < A.heap.size := (Array.getElem?_eq_some_iff.1 h).1
      rw [hg.block k hlt (fun e => by obtain ⟨-, o, ho, hc⟩ := hr k e.symm; rw [h] at ho; cases ho; cases hc)]
      exact h
    have hBB : Below w1.heap.size A B := ⟨hg.os, hg.tape, hg.output, hg.size, fun k hk2 => hg.block k (by omega) (fun e => by have := (hr k e.symm).1; omega)⟩
    exact ⟨⟨bldI_blocks g1 hk, hk _ _ _ _ g2⟩, g3.trans hBB, by have := hg.size; omega⟩
  case assign =>
    intro l x W K hK
    gi_wp2
    exact hK
  case body =>
    rintro l pre x W ⟨⟨hbl, hbs⟩, hBW, hWs⟩ hlt
    have hXW : XW W := hw.below (hB1.trans (hBW.mono (by omega)))
    have hcs := (hBW.cell (p := ⟨w.heap.size, 0, none⟩) (by simp; omega)).trans hc1
    obtain ⟨hd1, hd2⟩ := dec_len x.2.2
    have hx2 := x.2.2
    obtain ⟨hp1, hp2⟩ := pad_cells (9 - (Lib.decDigits x.2.1).length) (by omega)
    have htl := txtB_len n pre
    have hds : (ByteArray.mk (Lib.decDigits x.2.1).toArray).size = (Lib.decDigits x.2.1).length := by simp [ByteArray.size]
    gi_wp2_with first | (refine ⟨trivial, ?_⟩; gi_at_call 139; refine (CallsIn.inRound l (callsIn_wide.2 (xitoa_any x.2.1 _ (by omega) hXW))).mono ?_; rintro e w2 ⟨rfl, hb2⟩; have hcs2 := (hb2.cell (p := ⟨w.heap.size, 0, none⟩) (by dsimp only; omega)).trans hcs; have hbl2 := bldI_blocks hbl (cells_below hb2); have hbw2 := hb2.size) | (refine ⟨trivial, ?_⟩; gi_at_call 224; refine (CallsIn.inRound l (callsIn_wide.2 (Tryz.Builder_WriteString_k w1.heap.size w1.heap.size _ (zeros8.extract 0 (9 - (Lib.decDigits x.2.1).length)) w2 hbl2 (by rw [Lib.byteCells_length]; omega) (by omega)))).mono ?_; rintro e w3 ⟨rfl, hbl3, hb3, ho3⟩; rw [hp1, ← Lib.byteCells_append] at hbl3; have hbw3 := hb3.size) | (refine ⟨trivial, ?_⟩; gi_at_call 224; refine (CallsIn.inRound l (callsIn_wide.2 (Tryz.Builder_WriteString_k w1.heap.size w1.heap.size _ ⟨(Lib.decDigits x.2.1).toArray⟩ w3 (.inr hbl3) (by rw [Lib.byteCells_length, hds]; (try simp only [List.length_append, List.length_replicate]); omega) (by omega)))).mono ?_; rintro e w4 ⟨rfl, hbl4, hb4, ho4⟩; rw [strCells_arr, ← Lib.byteCells_append] at hbl4; have hbw4 := hb4.size) | (refine ⟨trivial, ?_⟩; gi_at_call 224; refine (CallsIn.inRound l (callsIn_wide.2 (Tryz.Builder_WriteString_k w1.heap.size w1.heap.size _ ⟨(Lib.decDigits x.2.1).toArray⟩ w2 hbl2 (by rw [Lib.byteCells_length, hds]; (try simp only [List.length_append, List.length_replicate]); omega) (by omega)))).mono ?_; rintro e w4 ⟨rfl, hbl4, hb4, ho4⟩; rw [strCells_arr, ← Lib.byteCells_append] at hbl4; have hbw4 := hb4.size)
    · rename_i hlt2
      have hB4 : Below w1.heap.size W w4 := (hb2.mono (by omega)).trans (hb3.trans hb4)
      obtain ⟨k1, k2, k3⟩ := body_end hbl hbs ((others_below hb2).trans (ho3.trans ho4)) hB4
      refine ⟨k1, k2, ⟨?_, k3⟩, hBW.trans hB4, by omega⟩
      rw [txtB_snoc, limbT, if_pos (by omega), ← List.append_assoc]
      exact .inr hbl4
    · rename_i hlt2
      have hB4 : Below w1.heap.size W w4 := (hb2.mono (by omega)).trans hb4
      obtain ⟨k1, k2, k3⟩ := body_end hbl hbs ((others_below hb2).trans ho4) hB4
      refine ⟨k1, k2, ⟨?_, k3⟩, hBW.trans hB4, by omega⟩
      rw [txtB_snoc, limbT, if_neg (by omega), List.nil_append]
      exact .inr hbl4
  case done =>
    rintro D ys W hD rfl ⟨⟨hbl, hbs⟩, hBW, hWs⟩ hK
    gi_wp2_with first | (refine ⟨trivial, ?_⟩; gi_at_call 226; refine (callsIn_wide.2 (Tryz.Builder_String_any_k w1.heap.size w1.heap.size _ W hbl (by omega))).mono ?_; rintro e w5 ⟨rfl, hbl5, hb5, ho5⟩)
    have hK5 := ho5 D _ hK (by simp; omega) (fun c fz e => by cases e)
    have htx : txtB n (downto (limb x) n n) = Lib.decDigits x := by
      rw [txt_down n hn.symm n (Nat.le_refl _), Nat.sub_self, Nat.pow_zero, Nat.div_one, ExP.dec_pos hx0]
    refine ⟨by simp, .inl ⟨_, _, rfl, run_takeDeferred hK5, ?_⟩⟩
    exact ⟨_, results_tmp rfl _ _ _, by rw [htx]; rfl, hB1.trans (((hBW.trans hb5).trans (belowK_b (w := w1) (Nat.le_refl _) w5 D _ _ (by omega) hK5 rfl rfl)).mono (by omega))⟩
  case stop =>
    rintro D c pre W _ _ h _
    exact h.elim
set_option maxRecDepth 100000 in
theorem text_any (a : Option Addr) (cap x : Nat) (w : World) (hw : XW w) (hx : ExP.nd 1000000000 x ≤ 1000000) (hs : SlAt a (nv .u32 1000000000 x) w) :
    Calls Tryz.prog 204 #[.slice a (ExP.nd 1000000000 x) cap] w fun e w' => e = .returned (.string (bstr (Lib.decDigits x))) ∧ Below w.heap.size w w' := by
  rcases Nat.eq_zero_or_pos x with rfl | h0
  · have hz := fun w => zero_any a (ExP.nd 1000000000 0) cap w
    rw [ExP.nd_zero, show decide (((0 : Nat) : Int) = 0) = true from rfl] at hz
    rw [ExP.nd_zero, Lib.decDigits_one (by omega)]
    refine enter env_ok Tryz.func204 rfl Tryz.results204 Tryz.ntmps204 [] [] [.any (.slice a 0 cap)] ⟨rfl, trivial⟩ (Nat.le_of_ble_eq_true rfl) w _ 1000 ?_
    repeat' (first | ((with_reducible first | show wpS _ _ _ _ | show putD _ _ _ _ | show putW _ _ _ _ | show splitG _ _ _ | show wpQ _ _ _ _ _ _ | show wpD _ _ _ _ _ _ _ | show wpX _ _ _ _ _ _ _ | show expX _ _ _ _ _ _ | show stepX _ _ _ _ | show keepR _ _ _ | show wpY _ _ _ _); conv => whnf) | ((with_reducible show RetN _ _ _); refine retB fun β => ?_) | ((with_reducible show _ ∧ _); first | (apply And.intro; (· intro h; exfalso; first | omega | (revert h; decide)); intro _) | (apply And.intro; rotate_left; (· intro h; exfalso; first | omega | (revert h; decide)); intro _) | (refine ⟨fun _ => ?_, fun _ => ?_⟩) | (apply And.intro; · kernel_rfl) | (apply And.intro; · (show inK _ _; unfold inK; omega)) | (apply And.intro; · (show (_ : Int) ≤ 9223372036854775807; (try simp only [List.length_append, List.length_drop, List.length_take, List.length_cons, List.length_nil]); omega))) | ((with_reducible show AllBe _); refine allBe fun βe => ?_; conv => whnf) | ((with_reducible show bothX _ _); refine bothI ?_ ?_; conv => whnf) | (with_reducible exact trivial) | ((with_reducible show CallN _ _ _ _ _ _ _ _); refine call_of env_ok rfl 1000 ?_) | ((with_reducible show XopN _ _ _ _ _ _); refine xop_of env_ok rfl 1000 ?_) | ((with_reducible show CallX _ _ _ _ _ _); first | (refine callX (.lit true) (by kernel_rfl) rfl (trivial) (fun β w hm => hz w) ?_)) | ((with_reducible show OpX _ _ _ _); first | fail) | ((with_reducible show ∃ _ : SV, _); first | fail) | ((with_reducible show ∃ _, _); first | fail))
    all_goals rfl
  · obtain ⟨ad, rfl⟩ := SlAt.some hs (nv_ne ((ExP.nd_pos (b := 1000000000) (by omega)).2 h0))
    obtain ⟨ad', e, h1, h2⟩ := hs 0 _ (nv_get ((ExP.nd_pos (b := 1000000000) (by omega)).2 h0))
    cases e
    exact text_pos ad cap x w hw h0 hx hs h1
end Go.Proofs.YtdkhkfdenlabaaaGreatDoor
namespace Go.Proofs.YtdkhkfdenlabaaaGreatDoor
open Go.RowKit
open Sym
/-- tables, errors and texts of the program and the library -/
structure XV (w : World) : Prop where
  xw : XW w
  utf : Lib.Utf8Tabs 2 3 w
  len : ∃ m, w.cell? ⟨4, 0, none⟩ = some (.int .i64 m)
  syn : ∃ te pe, w.cell? ⟨5, 0, none⟩ = some (.iface te pe)
  ran : ∃ te pe, w.cell? ⟨6, 0, none⟩ = some (.iface te pe)
  flt : ∀ i, i < 9 → w.cell? ⟨0, i, none⟩ = some (.string (bstr (VaP.ftext i)))
theorem cell_below {w w' : World} {a : Addr} {v : Value} (h : w.cell? a = some v) (hb : Below w.heap.size w w') : w'.cell? a = some v := (hb.cell (World.block_lt_of_cell? _ _ h)).trans h
theorem XV.below {w w' : World} (h : XV w) (hb : Below w.heap.size w w') : XV w' where
  xw := h.xw.below hb
  utf := ⟨fun c hc => cell_below (h.utf.1 c hc) hb, fun i hi => ⟨cell_below (h.utf.2 i hi).1 hb, cell_below (h.utf.2 i hi).2 hb⟩⟩
  len := h.len.imp fun _ h => cell_below h hb
  syn := h.syn.imp fun _ h => h.imp fun _ h => cell_below h hb
  ran := h.ran.imp fun _ h => h.imp fun _ h => cell_below h hb
  flt := fun i hi => cell_below (h.flt i hi) hb
/-- the reference's texts of errors -/
def XR (w : World) : Prop := ∀ i, i < 9 → w.cell? ⟨1, i, none⟩ = some (.string (bstr (VaP.ftext i)))
theorem XR.below {w w' : World} (h : XR w) (hb : Below w.heap.size w w') : XR w' := fun i hi => cell_below (h i hi) hb
namespace Sym
theorem x_indexAny {C : Ctx} {G : Blobs} {x y : Operand} {t e : TypeId} {a : Addr} {len j sz : Nat} {i : Int} (hi : i = (j : Nat)) (ht : C.P.underlying t = some (.array len e)) (hs : ∀ w, (sizeOf e).run C.P w = .ok sz w) (hj : j < len) :
    ExtN C G (.indexAddr t x y) [.any (.pointer (some a)), .int .i64 i] (.any (.pointer (some (a.add (j * sz))))) := by
  subst hi
  unfold ExtN
  intro ρ β w dst ty pos after g _ _ h
  have h' : ρ x = .pointer (some a) ∧ ρ y = .int .i64 (j : Nat) := by simpa [opsX, SV.dens, SV.den] using h
  have q : (underlying t).run C.P w = .ok (.array len e) w := by simp [underlying, ht]
  simp [execOp, Instr.indexAt, Instr.sureAddr, h'.1, h'.2, asIntOf, q, hs, hj, SV.den]
end Sym
end Go.Proofs.YtdkhkfdenlabaaaGreatDoor
