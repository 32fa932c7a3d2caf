/- slices.Yc over a number's digits:  -/
import Derived.RangeFuncNested
import Derived.RangeFuncBound
import Derived.RangeFuncCalls
import Derived.RangeFuncLeaves
import Derived.RangeFuncBox
import Derived.Shelf.Abstract
import Derived.Shelf.RegionOpen
import Derived.WalkKit
import Derived.OwnWalkIn
import Derived.TacticsInMore
import Derived.LoopNIn
import Derived.LoopIn
import Derived.Test.YtdkhkfdenlabaaaGreatDoorVGF
import Derived.Test.YtdkhkfdenlabaaaGreatDoorVGG
import Derived.Test.YtdkhkfdenlabaaaGreatDoorVGD
import Derived.Shelf.Strings.Builder1
import Derived.Shelf.Strings.Builder2
import Derived.Shelf.Strings.Trim
import Derived.Shelf.Small.Utf8
import Derived.Shelf.Small.Strs
import Derived.Shelf.Small.Wraps
import Derived.Shelf.Strings.BuilderF
import Derived.Shelf.Strings.BuilderK
import Derived.Shelf.Utf8.RuneCount
import Derived.Shelf.Strconv.Atoi
import Derived.Shelf.Strconv.Itoa0
import Derived.Shelf.Strconv.Itoa1
import Derived.Shelf.LaysM
import Derived.Shelf.Strconv.Itoa2
import Derived.Shelf.Strconv.Itoa3
import Derived.Shelf.Strconv.AtoiErrFast
import Derived.Shelf.Strconv.ParseIntEmpty
import Derived.Shelf.Strconv.AtoiFail
import Derived.Shelf.Strconv.Clone
import Derived.Shelf.Strconv.SyntaxError
import Derived.Shelf.LaysC
import Derived.Shelf.Strconv.ToError
import Derived.Shelf.Strconv.Lower
import Derived.Shelf.Strconv.ParseUint10
import Derived.Shelf.Strconv.ParseUint10Empty
import Derived.Shelf.Strconv.ParseUint10Any
import Derived.Shelf.Strconv.ParseInt10
import Derived.Shelf.Strconv.AtoiLong
import Derived.Shelf.Strconv.AtoiInnerAll
import Derived.Shelf.Strconv.RangeError
import Derived.Shelf.Strconv.ToErrorRange
import Derived.Shelf.Strconv.AtoiAll
import Derived.Shelf.Strings.Search1
import Derived.Shelf.Strings.Search2
import Derived.Shelf.Strings.Search3
import Derived.Shelf.Strings.Cut
import Derived.Shelf.Strings.Count
import Derived.Shelf.Strings.Shaped
import Derived.Shelf.Strings.Prefix
import Derived.Shelf.Strings.Split
import Derived.Shelf.Strings.SplitShaped
import Derived.Shelf.Unicode.Decode
import Derived.Shelf.Strings.Runes
import Derived.Shelf.Strings.RuneCount
import Derived.Shelf.Strings.AsciiSet
import Derived.Shelf.Strings.Explode
import Derived.Shelf.Bits.Mul64
import Derived.Shelf.Strings.Repeat
import Derived.Shelf.Unicode.DecodeSlow
import Derived.Shelf.Unicode.DecodeAny
import Derived.Shelf.Unicode.DecodeLast
import Derived.Ground.Names2Prog
import Derived.Shelf.Slices.SearchI
import Derived.Test.YtdkhkfdenlabaaaGreatDoorProg
set_option linter.unusedSimpArgs false
set_option linter.unusedVariables false
set_option maxRecDepth 100000
set_option maxHeartbeats 64000000
namespace Go.Proofs.YtdkhkfdenlabaaaGreatDoor
open Go.Proofs.Tryz
section
open Go.RowKit Go.Shelf
attribute [local go_sem] Oper.semAt_some
abbrev Dg := { d : Nat // d < 1000000000 }
def lJ (D : Nat -> Dg) (len k : Nat) : List (Nat × Dg) := (List.range k).map fun j => (len - 1 - j, D (len - 1 - j))
theorem rF (D : Nat -> Dg) (len k : Nat) : lJ D len (k + 1) = lJ D len k ++ [(len - 1 - k, D (len - 1 - k))] := by simp [lJ, List.range_succ]
theorem Du (D : Nat -> Dg) (len k : Nat) : (lJ D len k).length = k := by simp [lJ]
def Qi (n₀ Bs : Nat) (W W' : World) : Prop := ∀ (p : Addr) (v : Value), p.block < n₀ \/ p.block = Bs -> W.cell? p = some v -> W'.cell? p = some v
theorem Qi.refl (n₀ Bs : Nat) (W : World) : Qi n₀ Bs W W := fun _ _ _ h => h
theorem Qi.trans {n₀ Bs : Nat} {A B C : World} (h : Qi n₀ Bs A B) (k : Qi n₀ Bs B C) : Qi n₀ Bs A C := fun p v hp hv => k p v hp (h p v hp hv)
abbrev WY (x : Nat × Dg) : Array Value := #[.int .i64 (x.1 : Int), .int .u32 (x.2.1 : Int)]
theorem Qr (F : Fence) (n : Nat) (Xc : F.fn 251) (hro : F.round = none) (hn : 1 <= n) (l Bs n₀ len cap : Nat) (ad : Addr) (D : Nat -> Dg) (hreach : len <= 100000000) (hb : ad.block < n₀) (J Jx : List (Nat × Dg) -> World -> Prop)
  (hY : ∀ pre x W, J pre W -> pre.length < len -> YieldAt F (n - 1) Tryz.prog l (WY x) W fun e W' =>
   (e = .returned (.bool true) /\ J (pre ++ [x]) W' /\ Qi n₀ Bs W W') \/ (e = .returned (.bool false) /\ Jx (pre ++ [x]) W'))
  (W : World) (hBs : W.cell? ⟨Bs, 0, none⟩ = some (.slice (some ad) len cap)) (hc : ∀ j, j < len -> W.cell? (ad.add j) = some (.int .u32 ((D j).1 : Int))) (h0 : J [] W) :
  CallsIn F n Tryz.prog 251 #[.func (.yield l) #[] #[], .pointer (some ⟨Bs, 0, none⟩)] W fun e W' => (∃ v, e = .returned v) /\
   ((∃ ys, ys = lJ D len len /\ J ys W') \/ (∃ pre, (∃ k, k <= len /\ pre = lJ D len k) /\ Jx pre W')) := by
 refine callsIn_of_wp func251 rfl Xc ?_ hro
 simp only [ntmps251, List.size_toArray, List.length_cons, List.length_nil, Nat.reduceAdd, Nat.reduceSub, Array.replicate_succ, Array.replicate_zero, List.push_toArray, List.append_toArray, List.nil_append, List.cons_append]
 gi_wp2
 gi_loopw [3] (fun i wr => ∃ m k : Nat, m + k = len /\ i = .int .i64 ((m : Int) - 1) /\ J (lJ D len k) wr /\ Qi n₀ Bs W wr)
  (fun i _ => (intOf i + 1).toNat)
 case atStart => exact ⟨len, 0, rfl, rfl, h0, Qi.refl _ _ _⟩
 case round =>
  obtain ⟨m, k, hk, rfl, hJs, hnx⟩ := hrel
  have hcB := hnx _ _ (.inr rfl) hBs
  cases m with
  | zero =>
    obtain rfl : k = len := by omega
    gi_wp2
    go_end0
    exact ⟨⟨_, rfl⟩, .inl ⟨_, rfl, hJs⟩⟩
  | succ m =>
    have e0 : ((m + 1 : Nat) : Int) - 1 = (m : Int) := by omega
    rw [e0]
    have e1 : len - 1 - k = m := by omega
    have hlt : m < len := by omega
    have hcx := hnx _ _ (.inl (by rw [Sym.add_block]; exact hb)) (hc m (by omega))
    obtain ⟨fn, tmps, assign, body, hy, hR⟩ := hY _ (m, D m) wr hJs (by rw [Du]; omega)
    dsimp only [WY] at hy
    gi_wp2
    refine hR.mono ?_
    rintro e W3 (⟨rfl, hJ3, hk3⟩ | ⟨rfl, hJx3⟩)
    ·gi_wp2
     go_roundw
     case rel => exact ⟨m, k + 1, by omega, by simp, by rw [rF, e1]; exact hJ3, hnx.trans hk3⟩
     case measure => simp [intOf]
    ·gi_wp2
     refine bodyPost_ret (results_none rfl _ _ _) rfl ?_
     exact ⟨⟨_, rfl⟩, .inr ⟨_, ⟨k + 1, by omega, by rw [rF, e1]⟩, hJx3⟩⟩
theorem Us (F : Fence) (n : Nat) (h : F.fn 228) (hro : F.round = none) (a : Option Addr) (len cap : Nat) (w : World) :
  CallsIn F n Tryz.prog 228 #[.slice a len cap] w fun e w' => e = .returned (.func (.func 251) #[] #[.pointer (some ⟨w.heap.size, 0, none⟩)]) /\ w' = w.alloc (.cells #[.slice a len cap] 137) := by
 refine callsIn_of_wp func228 rfl h ?_ hro
 simp only [ntmps228, List.size_toArray, List.length_cons, List.length_nil, Nat.reduceAdd, Nat.reduceSub, Array.replicate_succ, Array.replicate_zero, List.push_toArray, List.append_toArray, List.nil_append, List.cons_append]
 gi_wp2
 go_ret
 exact ⟨rfl, rfl⟩
theorem Kz (F : Fence) (n : Nat) (Xc : F.fn 251) (hro : F.round = none) (hn : 1 <= n) (Bs n₀ len cap : Nat) (ad : Addr) (D : Nat -> Dg) (hreach : len <= 100000000) (w : World) (hBw : Bs < w.heap.size) (hn₀ : n₀ <= w.heap.size) (hb : ad.block < n₀)
  (hBs : w.cell? ⟨Bs, 0, none⟩ = some (.slice (some ad) len cap)) (hc : ∀ j, j < len -> w.cell? (ad.add j) = some (.int .u32 ((D j).1 : Int))) :
  SeqStopsK F n Tryz.prog 251 #[.pointer (some ⟨Bs, 0, none⟩)] WY (Qi n₀ Bs) (fun ys => ys = lJ D len len) (fun pre => ∃ k, k <= len /\ pre = lJ D len k) len w := fun l J Jx W hW _ _ hY h0 =>
 Qr F n Xc hro hn l Bs n₀ len cap ad D hreach hb J Jx hY W ((hW.cell (p := ⟨Bs, 0, none⟩) hBw).trans hBs) (fun j hj => (hW.cell (p := ad.add j) (by rw [Sym.add_block]; exact zl hb hn₀)).trans (hc j hj)) h0
end
section
open Go.RowKit
open Sym
attribute [local irreducible] Calls Sym.bM ae.nd ae.bu
theorem lu (a : Option Addr) (n cap x : Nat) (w : World) (hx : x < 1000000000 ^ n) (hn : n <= cap) (hl : n <= 100000000) (hs : aS a (dC .u32 (ae.lI 1000000000 n x)) w) : QC 201 #[.slice a n cap] w (.slice a (ae.nd 1000000000 x) cap) := by
 refine yE func201 rfl results201 ntmps201 [] [] [.any (.slice a n cap)] w ?_
 repeat' (first | exact ⟨⟩ | refine yG ?_ ?_ | intro _)
 refine yZ (T := {m : Nat // m <= n /\ x < 1000000000 ^ m}) (fun t => ⟨[(0, .any (.slice a t.1 cap))], [], 0, 21⟩) (fun t => t.1) ⟨n, Nat.le_refl _, hx⟩ [] [] (fun t I hI => ?_)
 obtain ⟨m, hm, hxm⟩ := t
 dsimp only
 by_cases h0 : m = 0
 ·subst h0
  rw [ae.wX (b := 1000000000) (by omega) hxm (.inl rfl)]
  repeat' (first | exact ⟨⟩ | refine yG ?_ ?_ | refine yO (aJ underlying137) ?_ | intro _)
  all_goals rfl
 ·obtain ⟨ad, rfl⟩ : ∃ ad, a = some ad := aS.some hs (fun e => by have := congrArg List.length e; rw [kN, ae.nY] at this; simp at this; omega)
  have hc := dW hs (i := m - 1) (iH (ae.kQ 1000000000 n x (m - 1) (by omega)))
  obtain ⟨m', hm'⟩ : ∃ m', m = m' + 1 := ⟨m - 1, by omega⟩
  have ht := fun h => ae.EH (b := 1000000000) (x := x) (m := m') (by omega) (by rw [<- hm']; exact hxm) h
  have he := fun h => ae.wX (b := 1000000000) (x := x) (m := m) (by omega) hxm (.inr h)
  rw [show m - 1 = m' by omega] at hc he
  generalize ae.bu 1000000000 m' x = dd at *
  repeat' (first | exact ⟨⟩ | refine yG ?_ ?_ | refine yO (aJ underlying137) ?_ | refine yN (j := m') underlying137 sizeOf161 ?_ | refine yO (v := .int .u32 (dd : Nat)) (dh (fun w => isAgg161 w) (fun w' hb β => by rw [Nat.mul_one]; exact hc w' hb)) ?_ | refine yO (WJ (j := m') (by omega) underlying137 (fun w => sizeOf161 w) (by omega)) ?_ | intro _)
  all_goals first | (refine hI _ ⟨m', by omega, ht (by omega)⟩ (by dsimp only; omega) yW; done) | (rw [he (by omega)]; rfl)
theorem lH (a : Option Addr) (n cap : Nat) (w : World) : QC 172 #[.slice a n cap] w (.bool (decide ((n : Int) = 0))) := by
 refine yE func172 rfl results172 ntmps172 [] [] [.any (.slice a n cap)] w ?_
 repeat' (first | exact ⟨⟩ | refine yG ?_ ?_ | refine yO (aJ underlying137) ?_ | intro _)
 all_goals rfl
end
end Go.Proofs.YtdkhkfdenlabaaaGreatDoor
namespace Go.Proofs
open Go.Shelf
def Tryz.lays169_ren : Go.Shelf.Ren := ⟨fun | 169 => 226 | n => n, fun | 70 => 202 | 9 => 9 | 0 => 0 | 72 => 204 | 37 => 113 | 127 => 227 | 3 => 3 | 5 => 5 | n => n, fun | n => n⟩
theorem Tryz.lays169 : Go.Proofs.Lays.n169 Tryz.prog Tryz.lays169_ren := {
 mixed := by kernel_rfl
 f169 := func226.trans (congrArg some (by kernel_rfl))
 t0 := underlying0
 a0 := isAgg0
 z0 := sizeOf0
 v0 := zeroValue0
 t3 := underlying3
 a3 := isAgg3
 z3 := sizeOf3
 v3 := zeroValue3
 t9 := underlying9
 a9 := isAgg9
 z9 := sizeOf9
 v9 := zeroValue9
 t37 := underlying113
 a37 := isAgg113
 z37 := sizeOf113
 v37 := zeroValue113
 t70 := underlying202
 a70 := isAgg202
 z70 := sizeOf202
 v70 := zeroValue202
 t72 := underlying204
 a72 := isAgg204
 z72 := sizeOf204
 v72 := zeroValue204
 t127 := underlying227
 a127 := isAgg227
 z127 := sizeOf227
 v127 := zeroValue227 }
theorem Tryz.Builder_Extra_169 : Builder.Extra Tryz.prog Tryz.lays169_ren := {
 sizeBuilder := by kernel_rfl
 liesBuilder := by kernel_rfl
 t5 := underlying5
 a5 := isAgg5
 z5 := sizeOf5
 v5 := zeroValue5
 infoByte := by kernel_rfl
 cellsByte := by kernel_rfl
 sizeByte := by kernel_rfl
 neB5 := by decide }
def Tryz.IW : Go.Shelf.Ren := ⟨fun | 161 => 178 | 231 => 142 | 227 => 144 | 233 => 145 | 235 => 147 | 228 => 189 | 197 => 105 | 151 => 190 | 260 => 159 | 152 => 216 | 137 => 245 | 119 => 246 | 224 => 231 | 225 => 230 | 217 => 229 | 266 => 252 | n => n, fun | 9 => 9 | 4 => 4 | 3 => 3 | 5 => 5 | 117 => 147 | 116 => 146 | 0 => 0 | 124 => 150 | 105 => 111 | 21 => 21 | 119 => 183 | 46 => 172 | 139 => 186 | 138 => 185 | n => n, fun | 3 => 2 | 4 => 3 | n => n⟩
theorem Tryz.lays161 : Go.Proofs.Lays.n161 Tryz.prog Tryz.IW := {
 mixed := by kernel_rfl
 f119 := func246.trans (congrArg some (by kernel_rfl))
 f137 := func245.trans (congrArg some (by kernel_rfl))
 f151 := func190.trans (congrArg some (by kernel_rfl))
 f152 := func216.trans (congrArg some (by kernel_rfl))
 f161 := func178.trans (congrArg some (by kernel_rfl))
 f197 := func105.trans (congrArg some (by kernel_rfl))
 f217 := func229.trans (congrArg some (by kernel_rfl))
 f224 := func231.trans (congrArg some (by kernel_rfl))
 f225 := func230.trans (congrArg some (by kernel_rfl))
 f227 := func144.trans (congrArg some (by kernel_rfl))
 f228 := func189.trans (congrArg some (by kernel_rfl))
 f231 := func142.trans (congrArg some (by kernel_rfl))
 f233 := func145.trans (congrArg some (by kernel_rfl))
 f235 := func147.trans (congrArg some (by kernel_rfl))
 f260 := func159.trans (congrArg some (by kernel_rfl))
 f266 := func252.trans (congrArg some (by kernel_rfl))
 t0 := underlying0
 a0 := isAgg0
 z0 := sizeOf0
 v0 := zeroValue0
 t3 := underlying3
 a3 := isAgg3
 z3 := sizeOf3
 v3 := zeroValue3
 t4 := underlying4
 a4 := isAgg4
 z4 := sizeOf4
 v4 := zeroValue4
 t5 := underlying5
 a5 := isAgg5
 z5 := sizeOf5
 v5 := zeroValue5
 t9 := underlying9
 a9 := isAgg9
 z9 := sizeOf9
 v9 := zeroValue9
 t21 := underlying21
 a21 := isAgg21
 z21 := sizeOf21
 v21 := zeroValue21
 t46 := underlying172
 a46 := isAgg172
 z46 := sizeOf172
 v46 := zeroValue172
 t105 := underlying111
 a105 := isAgg111
 z105 := sizeOf111
 v105 := zeroValue111
 t116 := underlying146
 a116 := isAgg146
 z116 := sizeOf146
 t117 := underlying147
 a117 := isAgg147
 z117 := sizeOf147
 v117 := zeroValue147
 t119 := underlying183
 a119 := isAgg183
 z119 := sizeOf183
 t124 := underlying150
 a124 := isAgg150
 z124 := sizeOf150
 v124 := zeroValue150
 t138 := underlying185
 a138 := isAgg185
 z138 := sizeOf185
 v138 := zeroValue185
 t139 := underlying186
 a139 := isAgg186
 z139 := sizeOf186
 v139 := zeroValue186
 g3 := by kernel_rfl
 g4 := by kernel_rfl }
def Tryz.IX : Go.Shelf.Ren := ⟨fun | 162 => 197 | 232 => 143 | 227 => 144 | 234 => 146 | 236 => 148 | 228 => 189 | 271 => 191 | 151 => 190 | 120 => 217 | 197 => 105 | 152 => 216 | 260 => 159 | 137 => 245 | 119 => 246 | 224 => 231 | 225 => 230 | 217 => 229 | 266 => 252 | n => n, fun | 9 => 9 | 4 => 4 | 3 => 3 | 5 => 5 | 117 => 147 | 116 => 146 | 0 => 0 | 124 => 150 | 21 => 21 | 105 => 111 | 46 => 172 | 119 => 183 | 139 => 186 | 138 => 185 | n => n, fun | 3 => 2 | 4 => 3 | n => n⟩
theorem Tryz.lays162 : Go.Proofs.Lays.n162 Tryz.prog Tryz.IX := {
 mixed := by kernel_rfl
 f119 := func246.trans (congrArg some (by kernel_rfl))
 f120 := func217.trans (congrArg some (by kernel_rfl))
 f137 := func245.trans (congrArg some (by kernel_rfl))
 f151 := func190.trans (congrArg some (by kernel_rfl))
 f152 := func216.trans (congrArg some (by kernel_rfl))
 f162 := func197.trans (congrArg some (by kernel_rfl))
 f197 := func105.trans (congrArg some (by kernel_rfl))
 f217 := func229.trans (congrArg some (by kernel_rfl))
 f224 := func231.trans (congrArg some (by kernel_rfl))
 f225 := func230.trans (congrArg some (by kernel_rfl))
 f227 := func144.trans (congrArg some (by kernel_rfl))
 f228 := func189.trans (congrArg some (by kernel_rfl))
 f232 := func143.trans (congrArg some (by kernel_rfl))
 f234 := func146.trans (congrArg some (by kernel_rfl))
 f236 := func148.trans (congrArg some (by kernel_rfl))
 f260 := func159.trans (congrArg some (by kernel_rfl))
 f266 := func252.trans (congrArg some (by kernel_rfl))
 f271 := func191.trans (congrArg some (by kernel_rfl))
 t0 := underlying0
 a0 := isAgg0
 z0 := sizeOf0
 v0 := zeroValue0
 t3 := underlying3
 a3 := isAgg3
 z3 := sizeOf3
 v3 := zeroValue3
 t4 := underlying4
 a4 := isAgg4
 z4 := sizeOf4
 v4 := zeroValue4
 t5 := underlying5
 a5 := isAgg5
 z5 := sizeOf5
 v5 := zeroValue5
 t9 := underlying9
 a9 := isAgg9
 z9 := sizeOf9
 v9 := zeroValue9
 t21 := underlying21
 a21 := isAgg21
 z21 := sizeOf21
 v21 := zeroValue21
 t46 := underlying172
 a46 := isAgg172
 z46 := sizeOf172
 v46 := zeroValue172
 t105 := underlying111
 a105 := isAgg111
 z105 := sizeOf111
 v105 := zeroValue111
 t116 := underlying146
 a116 := isAgg146
 z116 := sizeOf146
 t117 := underlying147
 a117 := isAgg147
 z117 := sizeOf147
 v117 := zeroValue147
 t119 := underlying183
 a119 := isAgg183
 z119 := sizeOf183
 t124 := underlying150
 a124 := isAgg150
 z124 := sizeOf150
 v124 := zeroValue150
 t138 := underlying185
 a138 := isAgg185
 z138 := sizeOf185
 v138 := zeroValue185
 t139 := underlying186
 a139 := isAgg186
 z139 := sizeOf186
 v139 := zeroValue186
 g3 := by kernel_rfl
 g4 := by kernel_rfl }
open Go.RowKit in
theorem Tryz.strings_TrimRight_one (s : ByteArray) (c : UInt8) (hc : c.toNat < 128) (w : World) (hs : s.size <= 9223372036854775807) :
  Calls Tryz.prog 197 #[.string s, .string ⟨#[c]⟩] w fun e w' => e = .returned (.string ⟨(Lib.trimRightB s.data.toList c).toArray⟩) /\ w' = w := Any.strings_TrimRight_one Tryz.lays162 s c hc w hs
def Tryz.IV : Go.Shelf.Ren := ⟨fun | 160 => 84 | 232 => 143 | 231 => 142 | 227 => 144 | 234 => 146 | 233 => 145 | 236 => 148 | 235 => 147 | 228 => 189 | 271 => 191 | 151 => 190 | 197 => 105 | 120 => 217 | 152 => 216 | 260 => 159 | 137 => 245 | 119 => 246 | 224 => 231 | 225 => 230 | 217 => 229 | 266 => 252 | n => n, fun | 9 => 9 | 4 => 4 | 3 => 3 | 5 => 5 | 117 => 147 | 116 => 146 | 0 => 0 | 124 => 150 | 21 => 21 | 105 => 111 | 46 => 172 | 119 => 183 | 139 => 186 | 138 => 185 | n => n, fun | 3 => 2 | 4 => 3 | n => n⟩
theorem Tryz.lays160 : Go.Proofs.Lays.n160 Tryz.prog Tryz.IV := {
 mixed := by kernel_rfl
 f119 := func246.trans (congrArg some (by kernel_rfl))
 f120 := func217.trans (congrArg some (by kernel_rfl))
 f137 := func245.trans (congrArg some (by kernel_rfl))
 f151 := func190.trans (congrArg some (by kernel_rfl))
 f152 := func216.trans (congrArg some (by kernel_rfl))
 f160 := func84.trans (congrArg some (by kernel_rfl))
 f197 := func105.trans (congrArg some (by kernel_rfl))
 f217 := func229.trans (congrArg some (by kernel_rfl))
 f224 := func231.trans (congrArg some (by kernel_rfl))
 f225 := func230.trans (congrArg some (by kernel_rfl))
 f227 := func144.trans (congrArg some (by kernel_rfl))
 f228 := func189.trans (congrArg some (by kernel_rfl))
 f231 := func142.trans (congrArg some (by kernel_rfl))
 f232 := func143.trans (congrArg some (by kernel_rfl))
 f233 := func145.trans (congrArg some (by kernel_rfl))
 f234 := func146.trans (congrArg some (by kernel_rfl))
 f235 := func147.trans (congrArg some (by kernel_rfl))
 f236 := func148.trans (congrArg some (by kernel_rfl))
 f260 := func159.trans (congrArg some (by kernel_rfl))
 f266 := func252.trans (congrArg some (by kernel_rfl))
 f271 := func191.trans (congrArg some (by kernel_rfl))
 t0 := underlying0
 a0 := isAgg0
 z0 := sizeOf0
 v0 := zeroValue0
 t3 := underlying3
 a3 := isAgg3
 z3 := sizeOf3
 v3 := zeroValue3
 t4 := underlying4
 a4 := isAgg4
 z4 := sizeOf4
 v4 := zeroValue4
 t5 := underlying5
 a5 := isAgg5
 z5 := sizeOf5
 v5 := zeroValue5
 t9 := underlying9
 a9 := isAgg9
 z9 := sizeOf9
 v9 := zeroValue9
 t21 := underlying21
 a21 := isAgg21
 z21 := sizeOf21
 v21 := zeroValue21
 t46 := underlying172
 a46 := isAgg172
 z46 := sizeOf172
 v46 := zeroValue172
 t105 := underlying111
 a105 := isAgg111
 z105 := sizeOf111
 v105 := zeroValue111
 t116 := underlying146
 a116 := isAgg146
 z116 := sizeOf146
 t117 := underlying147
 a117 := isAgg147
 z117 := sizeOf147
 v117 := zeroValue147
 t119 := underlying183
 a119 := isAgg183
 z119 := sizeOf183
 t124 := underlying150
 a124 := isAgg150
 z124 := sizeOf150
 v124 := zeroValue150
 t138 := underlying185
 a138 := isAgg185
 z138 := sizeOf185
 v138 := zeroValue185
 t139 := underlying186
 a139 := isAgg186
 z139 := sizeOf186
 v139 := zeroValue186
 g3 := by kernel_rfl
 g4 := by kernel_rfl }
def Tryz.IP : Go.Shelf.Ren := ⟨fun | 103 => 54 | 210 => 107 | 206 => 160 | n => n, fun | 9 => 9 | 4 => 4 | 24 => 78 | 3 => 3 | n => n, fun | n => n⟩
theorem Tryz.U7 : Go.Proofs.Lays.n103 Tryz.prog Tryz.IP := {
 mixed := by kernel_rfl
 f103 := func54.trans (congrArg some (by kernel_rfl))
 f206 := func160.trans (congrArg some (by kernel_rfl))
 f210 := func107.trans (congrArg some (by kernel_rfl))
 t3 := underlying3
 a3 := isAgg3
 z3 := sizeOf3
 v3 := zeroValue3
 t4 := underlying4
 a4 := isAgg4
 z4 := sizeOf4
 v4 := zeroValue4
 t9 := underlying9
 a9 := isAgg9
 z9 := sizeOf9
 v9 := zeroValue9
 t24 := underlying78
 a24 := isAgg78
 z24 := sizeOf78
 v24 := zeroValue78 }
open Go.RowKit in
theorem Tryz.strings_CutPrefix (s p : ByteArray) (w : World) :
  Calls Tryz.prog 54 #[.string s, .string p] w fun e w' => e = .returned (.tuple #[.string ⟨(Lib.trimPrefix s.data.toList p.data.toList).toArray⟩, .bool (Lib.hasPrefix s.data.toList p.data.toList)]) /\ w' = w := Any.strings_CutPrefix Tryz.U7 s p w
def Tryz.IQ : Go.Shelf.Ren := ⟨fun | 104 => 110 | 211 => 163 | 207 => 200 | n => n, fun | 9 => 9 | 4 => 4 | 24 => 78 | 3 => 3 | n => n, fun | n => n⟩
theorem Tryz.U8 : Go.Proofs.Lays.n104 Tryz.prog Tryz.IQ := {
 mixed := by kernel_rfl
 f104 := func110.trans (congrArg some (by kernel_rfl))
 f207 := func200.trans (congrArg some (by kernel_rfl))
 f211 := func163.trans (congrArg some (by kernel_rfl))
 t3 := underlying3
 a3 := isAgg3
 z3 := sizeOf3
 v3 := zeroValue3
 t4 := underlying4
 a4 := isAgg4
 z4 := sizeOf4
 v4 := zeroValue4
 t9 := underlying9
 a9 := isAgg9
 z9 := sizeOf9
 v9 := zeroValue9
 t24 := underlying78
 a24 := isAgg78
 z24 := sizeOf78
 v24 := zeroValue78 }
open Go.RowKit in
theorem Tryz.strings_CutSuffix (s p : ByteArray) (w : World) (hs : s.size <= 9223372036854775807) :
  Calls Tryz.prog 110 #[.string s, .string p] w fun e w' => e = .returned (.tuple #[.string ⟨(Lib.trimSuffix s.data.toList p.data.toList).toArray⟩, .bool (Lib.hasSuffix s.data.toList p.data.toList)]) /\ w' = w := Any.strings_CutSuffix Tryz.U8 s p w hs
open Go.RowKit in
theorem Tryz.Builder_String_any_k (B b : Nat) (l : List UInt8) (w : World) (h : Lib.IsBuilderF 204 5 B b (Lib.byteCells l) w) (hBw : B <= w.heap.size) :
  Calls Tryz.prog 226 #[.pointer (some ⟨b, 0, none⟩)] w fun e w' => e = .returned (.string ⟨l.toArray⟩) /\ (Lib.IsBuilderF 204 5 B b (Lib.byteCells l) w' /\ Below B w w' /\ Lib.OthersKept 5 (some b) w w') := Any.Builder_String_any_k Tryz.lays169 Tryz.Builder_Extra_169 B b l w h hBw
def Tryz.IY : Go.Shelf.Ren := ⟨fun | 172 => 177 | 244 => 212 | 245 => 213 | 247 => 236 | 279 => 237 | 280 => 238 | 281 => 239 | 282 => 240 | 287 => 254 | 316 => 255 | 171 => 139 | 205 => 256 | 321 => 264 | 322 => 265 | 243 => 188 | 246 => 215 | 283 => 241 | 284 => 242 | 285 => 243 | 286 => 244 | 129 => 258 | 317 => 257 | 318 => 259 | 319 => 260 | 320 => 261 | 337 => 266 | 338 => 267 | n => n, fun | 9 => 9 | 3 => 3 | 75 => 169 | 76 => 170 | 4 => 4 | 5 => 5 | 167 => 211 | 37 => 113 | 0 => 0 | 85 => 212 | 2 => 2 | 168 => 214 | 53 => 189 | 175 => 230 | 46 => 172 | 210 => 233 | 127 => 227 | 145 => 244 | 143 => 242 | 21 => 21 | 171 => 217 | 173 => 220 | 212 => 235 | 51 => 161 | 20 => 20 | 213 => 236 | 232 => 246 | 233 => 247 | 80 => 143 | n => n, fun | 15 => 5 | 16 => 6 | 17 => 7 | 18 => 8 | 19 => 9 | n => n⟩
theorem Tryz.lays172 : Go.Proofs.Lays.n172 Tryz.prog Tryz.IY := {
 mixed := by kernel_rfl
 f129 := func258.trans (congrArg some (by kernel_rfl))
 f171 := func139.trans (congrArg some (by kernel_rfl))
 f172 := func177.trans (congrArg some (by kernel_rfl))
 f205 := func256.trans (congrArg some (by kernel_rfl))
 f243 := func188.trans (congrArg some (by kernel_rfl))
 f244 := func212.trans (congrArg some (by kernel_rfl))
 f245 := func213.trans (congrArg some (by kernel_rfl))
 f246 := func215.trans (congrArg some (by kernel_rfl))
 f247 := func236.trans (congrArg some (by kernel_rfl))
 f279 := func237.trans (congrArg some (by kernel_rfl))
 f280 := func238.trans (congrArg some (by kernel_rfl))
 f281 := func239.trans (congrArg some (by kernel_rfl))
 f282 := func240.trans (congrArg some (by kernel_rfl))
 f283 := func241.trans (congrArg some (by kernel_rfl))
 f284 := func242.trans (congrArg some (by kernel_rfl))
 f285 := func243.trans (congrArg some (by kernel_rfl))
 f286 := func244.trans (congrArg some (by kernel_rfl))
 f287 := func254.trans (congrArg some (by kernel_rfl))
 f316 := func255.trans (congrArg some (by kernel_rfl))
 f317 := func257.trans (congrArg some (by kernel_rfl))
 f318 := func259.trans (congrArg some (by kernel_rfl))
 f319 := func260.trans (congrArg some (by kernel_rfl))
 f320 := func261.trans (congrArg some (by kernel_rfl))
 f321 := func264.trans (congrArg some (by kernel_rfl))
 f322 := func265.trans (congrArg some (by kernel_rfl))
 f337 := func266.trans (congrArg some (by kernel_rfl))
 f338 := func267.trans (congrArg some (by kernel_rfl))
 t0 := underlying0
 a0 := isAgg0
 z0 := sizeOf0
 v0 := zeroValue0
 t2 := underlying2
 a2 := isAgg2
 z2 := sizeOf2
 v2 := zeroValue2
 t3 := underlying3
 a3 := isAgg3
 z3 := sizeOf3
 v3 := zeroValue3
 t4 := underlying4
 a4 := isAgg4
 z4 := sizeOf4
 v4 := zeroValue4
 t5 := underlying5
 a5 := isAgg5
 z5 := sizeOf5
 v5 := zeroValue5
 t9 := underlying9
 a9 := isAgg9
 z9 := sizeOf9
 v9 := zeroValue9
 t20 := underlying20
 a20 := isAgg20
 z20 := sizeOf20
 v20 := zeroValue20
 t21 := underlying21
 a21 := isAgg21
 z21 := sizeOf21
 v21 := zeroValue21
 t37 := underlying113
 a37 := isAgg113
 z37 := sizeOf113
 v37 := zeroValue113
 t46 := underlying172
 a46 := isAgg172
 z46 := sizeOf172
 v46 := zeroValue172
 t51 := underlying161
 a51 := isAgg161
 z51 := sizeOf161
 v51 := zeroValue161
 t53 := underlying189
 a53 := isAgg189
 z53 := sizeOf189
 v53 := zeroValue189
 t75 := underlying169
 a75 := isAgg169
 z75 := sizeOf169
 v75 := zeroValue169
 t76 := underlying170
 a76 := isAgg170
 z76 := sizeOf170
 v76 := zeroValue170
 t85 := underlying212
 a85 := isAgg212
 z85 := sizeOf212
 v85 := zeroValue212
 t127 := underlying227
 a127 := isAgg227
 z127 := sizeOf227
 v127 := zeroValue227
 t143 := underlying242
 a143 := isAgg242
 z143 := sizeOf242
 v143 := zeroValue242
 t145 := underlying244
 a145 := isAgg244
 z145 := sizeOf244
 v145 := zeroValue244
 t167 := underlying211
 a167 := isAgg211
 z167 := sizeOf211
 v167 := zeroValue211
 t168 := underlying214
 a168 := isAgg214
 z168 := sizeOf214
 v168 := zeroValue214
 t171 := underlying217
 a171 := isAgg217
 z171 := sizeOf217
 v171 := zeroValue217
 t173 := underlying220
 a173 := isAgg220
 z173 := sizeOf220
 v173 := zeroValue220
 t175 := underlying230
 a175 := isAgg230
 z175 := sizeOf230
 v175 := zeroValue230
 t210 := underlying233
 a210 := isAgg233
 z210 := sizeOf233
 v210 := zeroValue233
 t212 := underlying235
 a212 := isAgg235
 z212 := sizeOf235
 v212 := zeroValue235
 t213 := underlying236
 a213 := isAgg236
 z213 := sizeOf236
 t232 := underlying246
 a232 := isAgg246
 z232 := sizeOf246
 v232 := zeroValue246
 t233 := underlying247
 a233 := isAgg247
 z233 := sizeOf247
 v233 := zeroValue247
 g15 := by kernel_rfl
 g16 := by kernel_rfl
 g17 := by kernel_rfl
 g18 := by kernel_rfl
 g19 := by kernel_rfl }
open Go.RowKit in
theorem Tryz.strconv_Atoi (s : ByteArray) (n : Int) (hl : s.size <= 18) (h : Lib.atoi s.data.toList = some n) (w : World) :
  Calls Tryz.prog 177 #[.string s] w fun e w' => e = .returned (.tuple #[.int .i64 n, .nilIface]) /\ ∃ t, w' = Lib.bytesWorld w 5 t := Any.strconv_Atoi Tryz.lays172 s n hl h w
def Tryz.FU : Go.Shelf.Ren := ⟨fun | 171 => 139 | 243 => 188 | 246 => 215 | 283 => 241 | 284 => 242 | 285 => 243 | 286 => 244 | 129 => 258 | 317 => 257 | 318 => 259 | 319 => 260 | 320 => 261 | 337 => 266 | 338 => 267 | n => n, fun | 3 => 3 | 9 => 9 | 2 => 2 | 4 => 4 | 171 => 217 | 0 => 0 | 53 => 189 | 37 => 113 | 5 => 5 | 173 => 220 | 212 => 235 | 51 => 161 | 20 => 20 | 213 => 236 | 46 => 172 | 232 => 246 | 233 => 247 | n => n, fun | 17 => 7 | 18 => 8 | 19 => 9 | n => n⟩
theorem Tryz.laysM171 : Go.Proofs.LaysM.n171 Tryz.prog Tryz.FU := {
 mixed := by kernel_rfl
 f129 := func258.trans (congrArg some (by kernel_rfl))
 f171 := func139.trans (congrArg some (by kernel_rfl))
 f243 := func188.trans (congrArg some (by kernel_rfl))
 f246 := func215.trans (congrArg some (by kernel_rfl))
 f283 := func241.trans (congrArg some (by kernel_rfl))
 f284 := func242.trans (congrArg some (by kernel_rfl))
 f285 := func243.trans (congrArg some (by kernel_rfl))
 f286 := func244.trans (congrArg some (by kernel_rfl))
 f317 := func257.trans (congrArg some (by kernel_rfl))
 f318 := func259.trans (congrArg some (by kernel_rfl))
 f319 := func260.trans (congrArg some (by kernel_rfl))
 f320 := func261.trans (congrArg some (by kernel_rfl))
 f337 := func266.trans (congrArg some (by kernel_rfl))
 f338 := func267.trans (congrArg some (by kernel_rfl))
 t0 := underlying0
 a0 := isAgg0
 z0 := sizeOf0
 v0 := zeroValue0
 t2 := underlying2
 a2 := isAgg2
 z2 := sizeOf2
 v2 := zeroValue2
 t3 := underlying3
 a3 := isAgg3
 z3 := sizeOf3
 v3 := zeroValue3
 t4 := underlying4
 a4 := isAgg4
 z4 := sizeOf4
 v4 := zeroValue4
 t5 := underlying5
 a5 := isAgg5
 z5 := sizeOf5
 v5 := zeroValue5
 t9 := underlying9
 a9 := isAgg9
 z9 := sizeOf9
 v9 := zeroValue9
 t20 := underlying20
 a20 := isAgg20
 z20 := sizeOf20
 v20 := zeroValue20
 t37 := underlying113
 a37 := isAgg113
 z37 := sizeOf113
 v37 := zeroValue113
 t46 := underlying172
 a46 := isAgg172
 z46 := sizeOf172
 v46 := zeroValue172
 t51 := underlying161
 a51 := isAgg161
 z51 := sizeOf161
 v51 := zeroValue161
 t53 := underlying189
 a53 := isAgg189
 z53 := sizeOf189
 v53 := zeroValue189
 t171 := underlying217
 a171 := isAgg217
 z171 := sizeOf217
 v171 := zeroValue217
 t173 := underlying220
 a173 := isAgg220
 z173 := sizeOf220
 v173 := zeroValue220
 t212 := underlying235
 a212 := isAgg235
 z212 := sizeOf235
 v212 := zeroValue235
 t213 := underlying236
 a213 := isAgg236
 z213 := sizeOf236
 t232 := underlying246
 a232 := isAgg246
 z232 := sizeOf246
 v232 := zeroValue246
 t233 := underlying247
 a233 := isAgg247
 z233 := sizeOf247
 v233 := zeroValue247
 g17 := by kernel_rfl
 g18 := by kernel_rfl
 g19 := by kernel_rfl
 i0 := by kernel_rfl
 i2 := by kernel_rfl
 i3 := by kernel_rfl
 i4 := by kernel_rfl
 i5 := by kernel_rfl
 i9 := by kernel_rfl
 i20 := by kernel_rfl
 i37 := by kernel_rfl
 i46 := by kernel_rfl
 i51 := by kernel_rfl
 i53 := by kernel_rfl
 i171 := by kernel_rfl
 i173 := by kernel_rfl
 i212 := by kernel_rfl
 i232 := by kernel_rfl
 i233 := by kernel_rfl
 m17 := by kernel_rfl
 m18 := by kernel_rfl
 m19 := by kernel_rfl }
open Go.RowKit Go.Sort Go.Lib in
theorem Tryz.strconv_Itoa (n : Int) (h0 : -9223372036854775808 <= n) (h1 : n <= 9223372036854775807) (w : World) (htab : Lib.TabIs Tryz.prog w "internal/strconv.uint64pow10" .u64 Lib.pow10Tab) :
  Calls Tryz.prog 139 #[.int .i64 n] w fun e w' => e = .returned (.string ⟨(Lib.itoa n).toArray⟩) /\ ∃ k os, w' = grow (w.drewN k) os := Any.strconv_Itoa Tryz.laysM171 n h0 h1 w htab
def Tryz.FQ : Go.Shelf.Ren := ⟨fun | 172 => 177 | 244 => 212 | 245 => 213 | 247 => 236 | 279 => 237 | 280 => 238 | 281 => 239 | 282 => 240 | 287 => 254 | 316 => 255 | 171 => 139 | 205 => 256 | 321 => 264 | 322 => 265 | 243 => 188 | 246 => 215 | 283 => 241 | 284 => 242 | 285 => 243 | 286 => 244 | 129 => 258 | 317 => 257 | 318 => 259 | 319 => 260 | 320 => 261 | 337 => 266 | 338 => 267 | n => n, fun | 9 => 9 | 3 => 3 | 75 => 169 | 76 => 170 | 4 => 4 | 5 => 5 | 167 => 211 | 37 => 113 | 0 => 0 | 85 => 212 | 2 => 2 | 168 => 214 | 53 => 189 | 175 => 230 | 46 => 172 | 210 => 233 | 127 => 227 | 145 => 244 | 143 => 242 | 21 => 21 | 171 => 217 | 173 => 220 | 212 => 235 | 51 => 161 | 20 => 20 | 213 => 236 | 232 => 246 | 233 => 247 | 80 => 143 | n => n, fun | 15 => 5 | 16 => 6 | 17 => 7 | 18 => 8 | 19 => 9 | n => n⟩
theorem Tryz.laysC172 : Go.Proofs.LaysC.n172 Tryz.prog Tryz.FQ := {
 mixed := by kernel_rfl
 f129 := func258.trans (congrArg some (by kernel_rfl))
 f171 := func139.trans (congrArg some (by kernel_rfl))
 f172 := func177.trans (congrArg some (by kernel_rfl))
 f205 := func256.trans (congrArg some (by kernel_rfl))
 f243 := func188.trans (congrArg some (by kernel_rfl))
 f244 := func212.trans (congrArg some (by kernel_rfl))
 f245 := func213.trans (congrArg some (by kernel_rfl))
 f246 := func215.trans (congrArg some (by kernel_rfl))
 f247 := func236.trans (congrArg some (by kernel_rfl))
 f279 := func237.trans (congrArg some (by kernel_rfl))
 f280 := func238.trans (congrArg some (by kernel_rfl))
 f281 := func239.trans (congrArg some (by kernel_rfl))
 f282 := func240.trans (congrArg some (by kernel_rfl))
 f283 := func241.trans (congrArg some (by kernel_rfl))
 f284 := func242.trans (congrArg some (by kernel_rfl))
 f285 := func243.trans (congrArg some (by kernel_rfl))
 f286 := func244.trans (congrArg some (by kernel_rfl))
 f287 := func254.trans (congrArg some (by kernel_rfl))
 f316 := func255.trans (congrArg some (by kernel_rfl))
 f317 := func257.trans (congrArg some (by kernel_rfl))
 f318 := func259.trans (congrArg some (by kernel_rfl))
 f319 := func260.trans (congrArg some (by kernel_rfl))
 f320 := func261.trans (congrArg some (by kernel_rfl))
 f321 := func264.trans (congrArg some (by kernel_rfl))
 f322 := func265.trans (congrArg some (by kernel_rfl))
 f337 := func266.trans (congrArg some (by kernel_rfl))
 f338 := func267.trans (congrArg some (by kernel_rfl))
 t0 := underlying0
 a0 := isAgg0
 z0 := sizeOf0
 v0 := zeroValue0
 t2 := underlying2
 a2 := isAgg2
 z2 := sizeOf2
 v2 := zeroValue2
 t3 := underlying3
 a3 := isAgg3
 z3 := sizeOf3
 v3 := zeroValue3
 t4 := underlying4
 a4 := isAgg4
 z4 := sizeOf4
 v4 := zeroValue4
 t5 := underlying5
 a5 := isAgg5
 z5 := sizeOf5
 v5 := zeroValue5
 t9 := underlying9
 a9 := isAgg9
 z9 := sizeOf9
 v9 := zeroValue9
 t20 := underlying20
 a20 := isAgg20
 z20 := sizeOf20
 v20 := zeroValue20
 t21 := underlying21
 a21 := isAgg21
 z21 := sizeOf21
 v21 := zeroValue21
 t37 := underlying113
 a37 := isAgg113
 z37 := sizeOf113
 v37 := zeroValue113
 t46 := underlying172
 a46 := isAgg172
 z46 := sizeOf172
 v46 := zeroValue172
 t51 := underlying161
 a51 := isAgg161
 z51 := sizeOf161
 v51 := zeroValue161
 t53 := underlying189
 a53 := isAgg189
 z53 := sizeOf189
 v53 := zeroValue189
 t75 := underlying169
 a75 := isAgg169
 z75 := sizeOf169
 v75 := zeroValue169
 t76 := underlying170
 a76 := isAgg170
 z76 := sizeOf170
 v76 := zeroValue170
 t85 := underlying212
 a85 := isAgg212
 z85 := sizeOf212
 v85 := zeroValue212
 t127 := underlying227
 a127 := isAgg227
 z127 := sizeOf227
 v127 := zeroValue227
 t143 := underlying242
 a143 := isAgg242
 z143 := sizeOf242
 v143 := zeroValue242
 t145 := underlying244
 a145 := isAgg244
 z145 := sizeOf244
 v145 := zeroValue244
 t167 := underlying211
 a167 := isAgg211
 z167 := sizeOf211
 v167 := zeroValue211
 t168 := underlying214
 a168 := isAgg214
 z168 := sizeOf214
 v168 := zeroValue214
 t171 := underlying217
 a171 := isAgg217
 z171 := sizeOf217
 v171 := zeroValue217
 t173 := underlying220
 a173 := isAgg220
 z173 := sizeOf220
 v173 := zeroValue220
 t175 := underlying230
 a175 := isAgg230
 z175 := sizeOf230
 v175 := zeroValue230
 t210 := underlying233
 a210 := isAgg233
 z210 := sizeOf233
 v210 := zeroValue233
 t212 := underlying235
 a212 := isAgg235
 z212 := sizeOf235
 v212 := zeroValue235
 t213 := underlying236
 a213 := isAgg236
 z213 := sizeOf236
 t232 := underlying246
 a232 := isAgg246
 z232 := sizeOf246
 v232 := zeroValue246
 t233 := underlying247
 a233 := isAgg247
 z233 := sizeOf247
 v233 := zeroValue247
 g15 := by kernel_rfl
 g16 := by kernel_rfl
 g17 := by kernel_rfl
 g18 := by kernel_rfl
 g19 := by kernel_rfl
 t80 := underlying143
 a80 := isAgg143
 z80 := sizeOf143
 v80 := zeroValue143
 i0 := by kernel_rfl
 i2 := by kernel_rfl
 i3 := by kernel_rfl
 i4 := by kernel_rfl
 i5 := by kernel_rfl
 i9 := by kernel_rfl
 i20 := by kernel_rfl
 i21 := by kernel_rfl
 i37 := by kernel_rfl
 i46 := by kernel_rfl
 i51 := by kernel_rfl
 i53 := by kernel_rfl
 i75 := by kernel_rfl
 i76 := by kernel_rfl
 i80 := by kernel_rfl
 i85 := by kernel_rfl
 i127 := by kernel_rfl
 i143 := by kernel_rfl
 i145 := by kernel_rfl
 i167 := by kernel_rfl
 i168 := by kernel_rfl
 i171 := by kernel_rfl
 i173 := by kernel_rfl
 i175 := by kernel_rfl
 i210 := by kernel_rfl
 i212 := by kernel_rfl
 i232 := by kernel_rfl
 i233 := by kernel_rfl
 m15 := by kernel_rfl
 m16 := by kernel_rfl
 m17 := by kernel_rfl
 m18 := by kernel_rfl
 m19 := by kernel_rfl
 c0 := by kernel_rfl
 c2 := by kernel_rfl
 c3 := by kernel_rfl
 c4 := by kernel_rfl
 c5 := by kernel_rfl
 c9 := by kernel_rfl
 c20 := by kernel_rfl
 c21 := by kernel_rfl
 c37 := by kernel_rfl
 c46 := by kernel_rfl
 c51 := by kernel_rfl
 c53 := by kernel_rfl
 c75 := by kernel_rfl
 c76 := by kernel_rfl
 c80 := by kernel_rfl
 c85 := by kernel_rfl
 c127 := by kernel_rfl
 c143 := by kernel_rfl
 c145 := by kernel_rfl
 c167 := by kernel_rfl
 c168 := by kernel_rfl
 c171 := by kernel_rfl
 c173 := by kernel_rfl
 c175 := by kernel_rfl
 c210 := by kernel_rfl
 c212 := by kernel_rfl
 c213 := by kernel_rfl
 c232 := by kernel_rfl
 c233 := by kernel_rfl }
open Go.RowKit in
theorem Tryz.strconv_Atoi_ok (s : ByteArray) (hmax : s.size <= 9223372036854775806) (v : Int) (h : Lib.atoiAll s.data.toList = .ok v) (w : World) :
  Calls Tryz.prog 177 #[.string s] w fun e w' => e = .returned (.tuple #[.int .i64 v, .nilIface]) /\ (w' = w \/ ∃ t, w' = Lib.bytesWorld w 5 t) := Any.strconv_Atoi_ok Tryz.laysC172 s hmax v h w
open Go.RowKit in
theorem Tryz.strconv_Atoi_syntax (s : ByteArray) (hlim : s.size <= 281474976710656) (h : Lib.atoiAll s.data.toList = .«syntax») (ev : Value) (w : World) (hv : w.cell? ⟨5, 0, none⟩ = some ev) (hev : ev = .nilIface \/ ∃ te pe, ev = .iface te pe) :
  Calls Tryz.prog 177 #[.string s] w fun e w' => ∃ N, e = .returned (.tuple #[.int .i64 (0), .iface 214 (.pointer (some ⟨N, 0, none⟩))]) /\ w.heap.size <= N /\ w'.heap[N]? = some (.cells #[.string ⟨#[65, 116, 111, 105]⟩, .string s, ev] 233 (0, 0)) /\ Below w.heap.size w w' := Any.strconv_Atoi_syntax Tryz.laysC172 s hlim h ev w hv hev
open Go.RowKit in
theorem Tryz.strconv_Atoi_range (s : ByteArray) (hlim : s.size <= 281474976710656) (h : Lib.atoiAll s.data.toList = .range) (ev : Value) (w : World) (hv : w.cell? ⟨6, 0, none⟩ = some ev) (hev : ev = .nilIface \/ ∃ te pe, ev = .iface te pe) :
  Calls Tryz.prog 177 #[.string s] w fun e w' => ∃ N, e = .returned (.tuple #[.int .i64 (Lib.atoiSat s.data.toList), .iface 214 (.pointer (some ⟨N, 0, none⟩))]) /\ w.heap.size <= N /\ w'.heap[N]? = some (.cells #[.string ⟨#[65, 116, 111, 105]⟩, .string s, ev] 233 (0, 0)) /\ Below w.heap.size w w' := Any.strconv_Atoi_range Tryz.laysC172 s hlim h ev w hv hev
def Tryz.IU : Go.Shelf.Ren := ⟨fun | 145 => 113 | 220 => 173 | 219 => 205 | 217 => 229 | 225 => 230 | 224 => 231 | 267 => 232 | 266 => 252 | 314 => 253 | n => n, fun | 9 => 9 | 4 => 4 | 59 => 118 | 3 => 3 | 5 => 5 | 46 => 172 | 146 => 223 | 51 => 161 | n => n, fun | 1 => 4 | n => n⟩
theorem Tryz.lays145 : Go.Proofs.Lays.n145 Tryz.prog Tryz.IU := {
 mixed := by kernel_rfl
 f145 := func113.trans (congrArg some (by kernel_rfl))
 f217 := func229.trans (congrArg some (by kernel_rfl))
 f219 := func205.trans (congrArg some (by kernel_rfl))
 f220 := func173.trans (congrArg some (by kernel_rfl))
 f224 := func231.trans (congrArg some (by kernel_rfl))
 f225 := func230.trans (congrArg some (by kernel_rfl))
 f266 := func252.trans (congrArg some (by kernel_rfl))
 f267 := func232.trans (congrArg some (by kernel_rfl))
 f314 := func253.trans (congrArg some (by kernel_rfl))
 t3 := underlying3
 a3 := isAgg3
 z3 := sizeOf3
 v3 := zeroValue3
 t4 := underlying4
 a4 := isAgg4
 z4 := sizeOf4
 v4 := zeroValue4
 t5 := underlying5
 a5 := isAgg5
 z5 := sizeOf5
 v5 := zeroValue5
 t9 := underlying9
 a9 := isAgg9
 z9 := sizeOf9
 v9 := zeroValue9
 t46 := underlying172
 a46 := isAgg172
 z46 := sizeOf172
 v46 := zeroValue172
 t51 := underlying161
 a51 := isAgg161
 z51 := sizeOf161
 v51 := zeroValue161
 t59 := underlying118
 a59 := isAgg118
 z59 := sizeOf118
 v59 := zeroValue118
 t146 := underlying223
 a146 := isAgg223
 z146 := sizeOf223
 v146 := zeroValue223
 g1 := by kernel_rfl }
open Go.RowKit Go.Lib in
theorem Tryz.strings_Cut (s sep : ByteArray) (m : Int) (w : World) (hs : s.size < 4294967281) (hm : w.cell? ⟨4, 0, none⟩ = some (.int .i64 m)) :
  Calls Tryz.prog 113 #[.string s, .string sep] w fun e w' => e = .returned (.tuple #[.string ⟨(Lib.cut s.data.toList sep.data.toList).1.toArray⟩, .string ⟨(Lib.cut s.data.toList sep.data.toList).2.1.toArray⟩, .bool (Lib.cut s.data.toList sep.data.toList).2.2]) /\ ∃ n, w' = w.drewN n := Any.strings_Cut Tryz.lays145 s sep m w hs hm
def Tryz.lays99_ren : Go.Shelf.Ren := ⟨fun | 99 => 162 | 206 => 160 | n => n, fun | 9 => 9 | 4 => 4 | 3 => 3 | n => n, fun | n => n⟩
theorem Tryz.lays99 : Go.Proofs.Lays.n99 Tryz.prog Tryz.lays99_ren := {
 mixed := by kernel_rfl
 f99 := func162.trans (congrArg some (by kernel_rfl))
 f206 := func160.trans (congrArg some (by kernel_rfl))
 t3 := underlying3
 a3 := isAgg3
 z3 := sizeOf3
 v3 := zeroValue3
 t4 := underlying4
 a4 := isAgg4
 z4 := sizeOf4
 v4 := zeroValue4
 t9 := underlying9
 a9 := isAgg9
 z9 := sizeOf9
 v9 := zeroValue9 }
open Go.RowKit Go.Lib in
theorem Tryz.strings_HasPrefix (s p : ByteArray) (w : World) :
  Calls Tryz.prog 162 #[.string s, .string p] w fun e w' => e = .returned (.bool (Lib.hasPrefix s.data.toList p.data.toList)) /\ w' = w := Any.strings_HasPrefix Tryz.lays99 s p w
def Tryz.lays101_ren : Go.Shelf.Ren := ⟨fun | 101 => 108 | 208 => 161 | 206 => 160 | n => n, fun | 9 => 9 | 4 => 4 | 3 => 3 | n => n, fun | n => n⟩
theorem Tryz.lays101 : Go.Proofs.Lays.n101 Tryz.prog Tryz.lays101_ren := {
 mixed := by kernel_rfl
 f101 := func108.trans (congrArg some (by kernel_rfl))
 f206 := func160.trans (congrArg some (by kernel_rfl))
 f208 := func161.trans (congrArg some (by kernel_rfl))
 t3 := underlying3
 a3 := isAgg3
 z3 := sizeOf3
 v3 := zeroValue3
 t4 := underlying4
 a4 := isAgg4
 z4 := sizeOf4
 v4 := zeroValue4
 t9 := underlying9
 a9 := isAgg9
 z9 := sizeOf9
 v9 := zeroValue9 }
open Go.RowKit Go.Lib in
theorem Tryz.strings_TrimPrefix (s p : ByteArray) (w : World) :
  Calls Tryz.prog 108 #[.string s, .string p] w fun e w' => e = .returned (.string ⟨(Lib.trimPrefix s.data.toList p.data.toList).toArray⟩) /\ w' = w := Any.strings_TrimPrefix Tryz.lays101 s p w
def Tryz.lays102_ren : Go.Shelf.Ren := ⟨fun | 102 => 196 | 209 => 221 | 207 => 200 | n => n, fun | 9 => 9 | 4 => 4 | 3 => 3 | n => n, fun | n => n⟩
theorem Tryz.lays102 : Go.Proofs.Lays.n102 Tryz.prog Tryz.lays102_ren := {
 mixed := by kernel_rfl
 f102 := func196.trans (congrArg some (by kernel_rfl))
 f207 := func200.trans (congrArg some (by kernel_rfl))
 f209 := func221.trans (congrArg some (by kernel_rfl))
 t3 := underlying3
 a3 := isAgg3
 z3 := sizeOf3
 v3 := zeroValue3
 t4 := underlying4
 a4 := isAgg4
 z4 := sizeOf4
 v4 := zeroValue4
 t9 := underlying9
 a9 := isAgg9
 z9 := sizeOf9
 v9 := zeroValue9 }
open Go.RowKit Go.Lib in
theorem Tryz.strings_TrimSuffix (s p : ByteArray) (w : World) (hs : s.size <= 9223372036854775807) :
  Calls Tryz.prog 196 #[.string s, .string p] w fun e w' => e = .returned (.string ⟨(Lib.trimSuffix s.data.toList p.data.toList).toArray⟩) /\ w' = w := Any.strings_TrimSuffix Tryz.lays102 s p w hs
def Tryz.lays146_ren : Go.Shelf.Ren := ⟨fun | 146 => 117 | 221 => 176 | 268 => 209 | 138 => 210 | 143 => 211 | 195 => 234 | 197 => 105 | 218 => 235 | 219 => 205 | 260 => 159 | 217 => 229 | 225 => 230 | 224 => 231 | 267 => 232 | 266 => 252 | 314 => 253 | n => n, fun | 9 => 9 | 31 => 121 | 3 => 3 | 4 => 4 | 0 => 0 | 105 => 111 | 21 => 21 | 5 => 5 | 46 => 172 | 119 => 183 | 139 => 186 | 138 => 185 | 146 => 223 | 51 => 161 | n => n, fun | 1 => 4 | 3 => 2 | 4 => 3 | n => n⟩
theorem Tryz.lays146 : Go.Proofs.Lays.n146 Tryz.prog Tryz.lays146_ren := {
 mixed := by kernel_rfl
 f138 := func210.trans (congrArg some (by kernel_rfl))
 f143 := func211.trans (congrArg some (by kernel_rfl))
 f146 := func117.trans (congrArg some (by kernel_rfl))
 f195 := func234.trans (congrArg some (by kernel_rfl))
 f197 := func105.trans (congrArg some (by kernel_rfl))
 f217 := func229.trans (congrArg some (by kernel_rfl))
 f218 := func235.trans (congrArg some (by kernel_rfl))
 f219 := func205.trans (congrArg some (by kernel_rfl))
 f221 := func176.trans (congrArg some (by kernel_rfl))
 f224 := func231.trans (congrArg some (by kernel_rfl))
 f225 := func230.trans (congrArg some (by kernel_rfl))
 f260 := func159.trans (congrArg some (by kernel_rfl))
 f266 := func252.trans (congrArg some (by kernel_rfl))
 f267 := func232.trans (congrArg some (by kernel_rfl))
 f268 := func209.trans (congrArg some (by kernel_rfl))
 f314 := func253.trans (congrArg some (by kernel_rfl))
 t0 := underlying0
 a0 := isAgg0
 z0 := sizeOf0
 v0 := zeroValue0
 t3 := underlying3
 a3 := isAgg3
 z3 := sizeOf3
 v3 := zeroValue3
 t4 := underlying4
 a4 := isAgg4
 z4 := sizeOf4
 v4 := zeroValue4
 t5 := underlying5
 a5 := isAgg5
 z5 := sizeOf5
 v5 := zeroValue5
 t9 := underlying9
 a9 := isAgg9
 z9 := sizeOf9
 v9 := zeroValue9
 t21 := underlying21
 a21 := isAgg21
 z21 := sizeOf21
 v21 := zeroValue21
 t31 := underlying121
 a31 := isAgg121
 z31 := sizeOf121
 v31 := zeroValue121
 t46 := underlying172
 a46 := isAgg172
 z46 := sizeOf172
 v46 := zeroValue172
 t51 := underlying161
 a51 := isAgg161
 z51 := sizeOf161
 v51 := zeroValue161
 t105 := underlying111
 a105 := isAgg111
 z105 := sizeOf111
 v105 := zeroValue111
 t119 := underlying183
 a119 := isAgg183
 z119 := sizeOf183
 t138 := underlying185
 a138 := isAgg185
 z138 := sizeOf185
 v138 := zeroValue185
 t139 := underlying186
 a139 := isAgg186
 z139 := sizeOf186
 v139 := zeroValue186
 t146 := underlying223
 a146 := isAgg223
 z146 := sizeOf223
 v146 := zeroValue223
 g1 := by kernel_rfl
 g3 := by kernel_rfl
 g4 := by kernel_rfl }
open Go.RowKit Go.Lib in
theorem Tryz.strings_Split (s sep : ByteArray) (m : Int) (w : World) (hs : s.size < 4294967281) (hm : w.cell? ⟨4, 0, none⟩ = some (.int .i64 m)) (h1 : 1 <= sep.size) :
  Calls Tryz.prog 117 #[.string s, .string sep] w fun e w' =>
   e = .returned (.slice (some ⟨w.heap.size, 0, none⟩) (Lib.countB s sep + 1) (Lib.countB s sep + 1)) /\ w' = w.alloc (.cells ((Lib.splitB sep 0 (Lib.countB s sep) s).map Value.string).toArray 9) := Any.strings_Split Tryz.lays146 (by kernel_rfl) s sep m w hs hm h1
def Tryz.lays197_ren : Go.Shelf.Ren := ⟨fun | 197 => 105 | 260 => 159 | n => n, fun | 9 => 9 | 21 => 21 | 3 => 3 | 4 => 4 | 5 => 5 | 105 => 111 | 119 => 183 | 0 => 0 | 46 => 172 | 139 => 186 | 138 => 185 | n => n, fun | 3 => 2 | 4 => 3 | n => n⟩
theorem Tryz.lays197 : Go.Proofs.Lays.n197 Tryz.prog Tryz.lays197_ren := {
 mixed := by kernel_rfl
 f197 := func105.trans (congrArg some (by kernel_rfl))
 f260 := func159.trans (congrArg some (by kernel_rfl))
 t0 := underlying0
 a0 := isAgg0
 z0 := sizeOf0
 v0 := zeroValue0
 t3 := underlying3
 a3 := isAgg3
 z3 := sizeOf3
 v3 := zeroValue3
 t4 := underlying4
 a4 := isAgg4
 z4 := sizeOf4
 v4 := zeroValue4
 t5 := underlying5
 a5 := isAgg5
 z5 := sizeOf5
 v5 := zeroValue5
 t9 := underlying9
 a9 := isAgg9
 z9 := sizeOf9
 v9 := zeroValue9
 t21 := underlying21
 a21 := isAgg21
 z21 := sizeOf21
 v21 := zeroValue21
 t46 := underlying172
 a46 := isAgg172
 z46 := sizeOf172
 v46 := zeroValue172
 t105 := underlying111
 a105 := isAgg111
 z105 := sizeOf111
 v105 := zeroValue111
 t119 := underlying183
 a119 := isAgg183
 z119 := sizeOf183
 t138 := underlying185
 a138 := isAgg185
 z138 := sizeOf185
 v138 := zeroValue185
 t139 := underlying186
 a139 := isAgg186
 z139 := sizeOf186
 v139 := zeroValue186
 g3 := by kernel_rfl
 g4 := by kernel_rfl }
def Tryz.lays105_ren : Go.Shelf.Ren := ⟨fun | 105 => 202 | 212 => 222 | 99 => 162 | 165 => 223 | 166 => 224 | 170 => 225 | 169 => 226 | 263 => 247 | 264 => 248 | 206 => 160 | 240 => 249 | 241 => 250 | 276 => 262 | 277 => 263 | n => n, fun | 9 => 9 | 3 => 3 | 4 => 4 | 20 => 20 | 0 => 0 | 46 => 172 | 109 => 200 | 5 => 5 | 72 => 204 | 76 => 170 | 51 => 161 | 146 => 223 | 53 => 189 | 148 => 225 | 70 => 202 | 37 => 113 | 75 => 169 | 127 => 227 | 164 => 238 | 80 => 143 | n => n, fun | n => n⟩
theorem Tryz.lays105 : Go.Proofs.Lays.n105 Tryz.prog Tryz.lays105_ren := {
 mixed := by kernel_rfl
 f99 := func162.trans (congrArg some (by kernel_rfl))
 f105 := func202.trans (congrArg some (by kernel_rfl))
 f165 := func223.trans (congrArg some (by kernel_rfl))
 f166 := func224.trans (congrArg some (by kernel_rfl))
 f169 := func226.trans (congrArg some (by kernel_rfl))
 f170 := func225.trans (congrArg some (by kernel_rfl))
 f206 := func160.trans (congrArg some (by kernel_rfl))
 f212 := func222.trans (congrArg some (by kernel_rfl))
 f240 := func249.trans (congrArg some (by kernel_rfl))
 f241 := func250.trans (congrArg some (by kernel_rfl))
 f263 := func247.trans (congrArg some (by kernel_rfl))
 f264 := func248.trans (congrArg some (by kernel_rfl))
 f276 := func262.trans (congrArg some (by kernel_rfl))
 f277 := func263.trans (congrArg some (by kernel_rfl))
 t0 := underlying0
 a0 := isAgg0
 z0 := sizeOf0
 v0 := zeroValue0
 t3 := underlying3
 a3 := isAgg3
 z3 := sizeOf3
 v3 := zeroValue3
 t4 := underlying4
 a4 := isAgg4
 z4 := sizeOf4
 v4 := zeroValue4
 t5 := underlying5
 a5 := isAgg5
 z5 := sizeOf5
 v5 := zeroValue5
 t9 := underlying9
 a9 := isAgg9
 z9 := sizeOf9
 v9 := zeroValue9
 t20 := underlying20
 a20 := isAgg20
 z20 := sizeOf20
 v20 := zeroValue20
 t37 := underlying113
 a37 := isAgg113
 z37 := sizeOf113
 v37 := zeroValue113
 t46 := underlying172
 a46 := isAgg172
 z46 := sizeOf172
 v46 := zeroValue172
 t51 := underlying161
 a51 := isAgg161
 z51 := sizeOf161
 v51 := zeroValue161
 t53 := underlying189
 a53 := isAgg189
 z53 := sizeOf189
 v53 := zeroValue189
 t70 := underlying202
 a70 := isAgg202
 z70 := sizeOf202
 v70 := zeroValue202
 t72 := underlying204
 a72 := isAgg204
 z72 := sizeOf204
 v72 := zeroValue204
 t75 := underlying169
 a75 := isAgg169
 z75 := sizeOf169
 v75 := zeroValue169
 t76 := underlying170
 a76 := isAgg170
 z76 := sizeOf170
 v76 := zeroValue170
 t109 := underlying200
 a109 := isAgg200
 z109 := sizeOf200
 v109 := zeroValue200
 t127 := underlying227
 a127 := isAgg227
 z127 := sizeOf227
 v127 := zeroValue227
 t146 := underlying223
 a146 := isAgg223
 z146 := sizeOf223
 v146 := zeroValue223
 t148 := underlying225
 a148 := isAgg225
 z148 := sizeOf225
 v148 := zeroValue225
 t164 := underlying238
 a164 := isAgg238
 z164 := sizeOf238
 v164 := zeroValue238 }
theorem Tryz.Builder_Extra_105 : Builder.Extra Tryz.prog Tryz.lays105_ren := {
 sizeBuilder := by kernel_rfl
 liesBuilder := by kernel_rfl
 t5 := underlying5
 a5 := isAgg5
 z5 := sizeOf5
 v5 := zeroValue5
 infoByte := by kernel_rfl
 cellsByte := by kernel_rfl
 sizeByte := by kernel_rfl
 neB5 := by decide }
open Go.RowKit Go.Lib in
theorem Tryz.strings_Repeat_main (s : ByteArray) (c : Nat) (w : World) (hc2 : 2 <= c) (hc : c <= 9223372036854775807) (hlen : s.size * c <= 140737488355328) (h0 : 0 < s.size) :
  Calls Tryz.prog 202 #[.string s, .int .i64 c] w fun e w' => e = .returned (.string ⟨(Lib.repeatL s.data.toList c).toArray⟩) /\ Below w.heap.size w w' := Any.strings_Repeat_main Tryz.lays105 Tryz.Builder_Extra_105 s c w hc2 hc hlen h0
open Go.RowKit Go.Lib in
theorem Tryz.strings_Repeat_zero (s : ByteArray) (w : World) :
  Calls Tryz.prog 202 #[.string s, .int .i64 0] w fun e w' => e = .returned (.string ⟨#[]⟩) /\ w' = w := Any.strings_Repeat_zero Tryz.lays105 s w
open Go.RowKit Go.Lib in
theorem Tryz.strings_Repeat_one (s : ByteArray) (w : World) :
  Calls Tryz.prog 202 #[.string s, .int .i64 1] w fun e w' => e = .returned (.string s) /\ w' = w := Any.strings_Repeat_one Tryz.lays105 s w
open Go.RowKit Go.Lib in
theorem Tryz.utf8_DecodeRuneInString (s : ByteArray) (w : World) (hT : Lib.Utf8Tabs 2 3 w) :
  Calls Tryz.prog 105 #[.string s] w fun e w' => e = .returned (.tuple #[.int .i32 (Lib.decodeGo s).1, .int .i64 (Lib.decodeGo s).2]) /\ Below w.heap.size w w' := Any.utf8_DecodeRuneInString Tryz.lays197 s w hT
end Go.Proofs
