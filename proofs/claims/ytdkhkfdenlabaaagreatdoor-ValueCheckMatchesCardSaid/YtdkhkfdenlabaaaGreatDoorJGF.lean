/- A walk that reckons: fractions whose slices are new to the function. A walk that reckons: rows doubled, own rows shared ahead of a call. A walk that reckons: a string turned into bytes. Bits of int. A walk that reckons: bits. A walk that reckons: a fraction of slices and a yes or no. slices.Backward over a number's digits: the contract of a range over it. The table of types. (by a tool) -/
import Derived.Test.YtdkhkfdenlabaaaGreatDoorJGE
import Derived.Lib.ConvBytes
import Derived.Lib.SmallJoins
import Derived.Laws.BitsLemmas
import Derived.Laws.BitsAllLaws
import Derived.RangeFuncNested
import Derived.RangeFuncBound
import Derived.RangeFuncCalls
import Derived.RangeFuncLeaves
import Derived.RangeFuncBox
import Derived.Shelf.Abstract
import Derived.Shelf.RegionOpen
import Derived.WalkKit
import Derived.OwnWalkIn
import Derived.TacticsInMore
import Derived.LoopNIn
import Derived.LoopIn
import Derived.Test.YtdkhkfdenlabaaaGreatDoorJGA
set_option linter.unusedSimpArgs false
set_option linter.unusedVariables false
namespace Go.Proofs.YtdkhkfdenlabaaaGreatDoor
open Go.RowKit
namespace Sym
open ExP (nd)
theorem Sat.learnC {base : Nat} {w0 : Base} {act : Act} {w w' : World} {fr : List (Nat × SV)} {n nx : Nat} {rows : List (Nat × Bool × SRow)} {β : Nat → Nat} {a : Option Addr} {xs : List Value} (h0 : 0 < base) (hb : base ≤ w.heap.size) (hb' : w.heap.size ≤ w'.heap.size)
    (hs : Sat base w0 ⟨fr, rows, nx, n⟩ β act w') (ho : ∀ i r, get rows i = some (true, r) → base ≤ β i ∧ β i < w.heap.size) (hsl : SlAt a xs w') (hf : FreshX a xs w ∨ ∀ ad, a = some ad → base ≤ ad.block ∧ ∀ i r, get rows i = some (true, r) → β i ≠ ad.block) :
    ∃ q, Sat base w0 ⟨fr, (nx, false, .blob (SlF base a xs)) :: rows, nx + 1, n⟩ (fun i => if i = nx then q else β i) act w' := by
  have hex : ∃ q, q < w'.heap.size ∧ SlF base a xs q w'.heap[q]? ∧ ∀ i r, get rows i = some (true, r) → β i ≠ q := by
    cases xs with
    | nil => exact ⟨0, by omega, ⟨fun _ _ i v hi => by simp at hi, fun h => absurd rfl h⟩, fun i r hi => by have := (ho i r hi).1; omega⟩
    | cons y r =>
      obtain ⟨ad, e, h1, _⟩ := hsl 0 y rfl
      refine ⟨ad.block, h1, ⟨fun W hW i v hi => ?_, fun _ => ?_⟩, fun i r hi => ?_⟩
      · obtain ⟨ad', e', h2, h3⟩ := hsl i v hi
        rw [e] at e'
        cases e'
        exact ⟨ad, e, rfl, by rw [World.cell?_of_block (w := w') (by rw [add_block]; exact hW)]; exact h3⟩
      · rcases hf with hf | hf
        · have := hf (by simp) ad e
          omega
        · exact (hf ad e).1
      · rcases hf with hf | hf
        · have := hf (by simp) ad e
          have := (ho i r hi).2
          omega
        · exact (hf ad e).2 i r hi
  obtain ⟨q, h2, h3, h4⟩ := hex
  exact ⟨q, hs.learn (o := false) h2 h3 (fun e => by cases e) h4⟩
end Sym
open Sym
end Go.Proofs.YtdkhkfdenlabaaaGreatDoor
namespace Go.Proofs.YtdkhkfdenlabaaaGreatDoor
open Go.RowKit
namespace Sym
end Sym
end Go.Proofs.YtdkhkfdenlabaaaGreatDoor
namespace Go.Proofs.YtdkhkfdenlabaaaGreatDoor
open Go.RowKit
namespace Sym
theorem opx_strBytes {C : Ctx} {d : Nat} {ty : TypeId} {pos : String} {after : Array Edge} {gd : Option (Nat × Bool)} {fr : List (Nat × SV)} {rows : List (Nat × Bool × SRow)} {nx n : Nat} {K : St → Prop}
    {x : Operand} {src dst e : TypeId} (l : List UInt8) (h0 : 0 < C.base) (hd : Nat.blt d n = true) (hx : ev fr x = some (.str l))
    (hs0 : C.P.underlying src = some .string) (hd0 : C.P.underlying dst = some (.slice e)) (he : C.P.underlying e = some (.int .u8))
    (h : ∀ g cap, K ⟨(d, .any (.slice (some ⟨g, 0, none⟩) l.length cap)) :: fr, (nx, false, .blob (SlF C.base (some ⟨g, 0, none⟩) (bvals l))) :: rows, nx + 1, n⟩) :
    OpX C ⟨some d, .convert src dst x, ty, pos, after, gd⟩ ⟨fr, rows, nx, n⟩ K := by
  unfold OpX
  intro β a w hs next Q hn
  have e1 := (ev_sound hs hx).1
  have hlen : (bstr l).size = l.length := bstr_size l
  have hr := Lib.run_convert_string_bytes (P := C.P) w src dst e (bstr l) hs0 hd0 he
  rw [hlen] at hr
  unfold Oper.wp
  have hrun : (execOp a.eval ⟨some d, .convert src dst x, ty, pos, after, gd⟩).run C.P w = .ok (.value (.slice (some ⟨w.heap.size, 0, none⟩) l.length (grownCap w l.length 0 e))) (Lib.bytesWorld w e (bstr l)) := by
    simp only [execOp, e1, SV.den, Sem.run_bind, hr]; simp
  rw [hrun]
  have hm := hs.mem
  have hb : Below w.heap.size w (Lib.bytesWorld w e (bstr l)) := Go.Joins.below_bytesWorld w.heap.size w e _ (Nat.le_refl _)
  have hs' : Sat C.base C.w0 ⟨fr, rows, nx, n⟩ β a (Lib.bytesWorld w e (bstr l)) := ⟨hs.defers, hs.size, hs.slot, hm.belowNext hb⟩
  have ho : ∀ i r, get rows i = some (true, r) → C.base ≤ β i ∧ β i < w.heap.size := fun i r hi => ⟨(hm.row i true r hi).2.2.2 rfl, hm.lt i (hm.row i true r hi).2.2.1⟩
  have hsl : SlAt (some ⟨w.heap.size, 0, none⟩) (bvals l) (Lib.bytesWorld w e (bstr l)) := fun i v hi => by
    refine ⟨_, rfl, ?_, ?_⟩
    · rw [Lib.bytesWorld_size]; exact Nat.lt_succ_self _
    · have hil : i < l.length := by
        have := (List.getElem?_eq_some_iff.1 hi).1
        simpa [bvals] using this
      have h1 := Lib.bytesWorld_cell w e (bstr l) i (by rw [hlen]; exact hil)
      have h2 : (Addr.add ⟨w.heap.size, 0, none⟩ i : Addr) = ⟨w.heap.size, i, none⟩ := by simp [Addr.add, eq_comm]
      rw [h2, h1, ← hi]
      have h3 : (bvals l)[i]? = some (.int .u8 (l[i].toNat : Int)) := by simp [bvals, hil]
      rw [h3]
      congr 2
      simp [bstr, List.getD, hil]
  obtain ⟨q, k1⟩ := hs'.learnC (a := some ⟨w.heap.size, 0, none⟩) (xs := bvals l) h0 hm.base_le hb.size ho hsl (.inl fun _ ad e => by cases e; exact Nat.le_refl _)
  have hs3 := k1.put (d := d) (by simpa [Nat.blt_eq] using hd) (v := .any (.slice (some ⟨w.heap.size, 0, none⟩) l.length (grownCap w l.length 0 e))) rfl
  exact hn _ _ _ _ (h w.heap.size _) hs3
end Sym
end Go.Proofs.YtdkhkfdenlabaaaGreatDoor
namespace Go.Proofs.YtdkhkfdenlabaaaGreatDoor.Bi
open Go
theorem ofInt_i64 (a : Nat) (ha : a < 9223372036854775808) : (BitVec.ofInt 64 (a : Int)).toNat = a := by
  rw [BitVec.ofInt_natCast, BitVec.toNat_ofNat]; exact Nat.mod_eq_of_lt (by omega)
theorem i64_and_nat (a b : Nat) (ha : a < 9223372036854775808) (hb : b < 9223372036854775808) : bits .and .i64 (a : Int) (b : Int) = ((a &&& b : Nat) : Int) := by
  have hx : a &&& b < 2 ^ 63 := Nat.and_lt_two_pow _ (by omega)
  show IntKind.i64.wrap ((BitVec.ofInt 64 (a : Int) &&& BitVec.ofInt 64 (b : Int)).toNat : Int) = _
  rw [BitVec.toNat_and, ofInt_i64 a ha, ofInt_i64 b hb, IntKind.wrap_i64]
  omega
theorem i64_or_nat (a b : Nat) (ha : a < 9223372036854775808) (hb : b < 9223372036854775808) : bits .or .i64 (a : Int) (b : Int) = ((a ||| b : Nat) : Int) := by
  have hx : a ||| b < 2 ^ 63 := Nat.or_lt_two_pow (by omega) (by omega)
  show IntKind.i64.wrap ((BitVec.ofInt 64 (a : Int) ||| BitVec.ofInt 64 (b : Int)).toNat : Int) = _
  rw [BitVec.toNat_or, ofInt_i64 a ha, ofInt_i64 b hb, IntKind.wrap_i64]
  omega
end Go.Proofs.YtdkhkfdenlabaaaGreatDoor.Bi
namespace Go.Proofs.YtdkhkfdenlabaaaGreatDoor
open Go.RowKit
namespace Sym
theorem x_and {C : Ctx} {G : Blobs} {x y : Operand} {t u : TypeId} {k : IntKind} {a b : Int} (c : Int) (hc : k.wrap ((BitVec.ofInt k.bits a &&& BitVec.ofInt k.bits b).toNat : Int) = c) : ExtN C G (.binOp .and t x y u) [.int k a, .int k b] (.int k c) := by
  unfold ExtN
  intro ρ β w dst ty pos after g _ _ h
  have h' : ρ x = .int k a ∧ ρ y = .int k b := by simpa [opsX, SV.dens, SV.den] using h
  subst hc
  simp [execOp, eqGuard, binOp, Op.intBits, h'.1, h'.2, SV.den]
theorem x_or {C : Ctx} {G : Blobs} {x y : Operand} {t u : TypeId} {k : IntKind} {a b : Int} (c : Int) (hc : k.wrap ((BitVec.ofInt k.bits a ||| BitVec.ofInt k.bits b).toNat : Int) = c) : ExtN C G (.binOp .or t x y u) [.int k a, .int k b] (.int k c) := by
  unfold ExtN
  intro ρ β w dst ty pos after g _ _ h
  have h' : ρ x = .int k a ∧ ρ y = .int k b := by simpa [opsX, SV.dens, SV.den] using h
  subst hc
  simp [execOp, eqGuard, binOp, Op.intBits, h'.1, h'.2, SV.den]
theorem x_shl {C : Ctx} {G : Blobs} {x y : Operand} {t u : TypeId} {k k' : IntKind} {a : Int} (n : Nat) (hn : n ≤ k.bits) (hw : inK k (a * 2 ^ n)) : ExtN C G (.binOp .shl t x y u) [.int k a, .int k' (n : Int)] (.int k (a * 2 ^ n)) := by
  unfold ExtN
  intro ρ β w dst ty pos after g _ _ h
  have h' : ρ x = .int k a ∧ ρ y = .int k' (n : Int) := by simpa [opsX, SV.dens, SV.den] using h
  have h0 : ¬ ((n : Int) < 0) := by omega
  simp [execOp, eqGuard, binOp, Op.shift, h'.1, h'.2, SV.den, h0, Nat.min_eq_left hn, inK_wrap hw]
end Sym
namespace Bi
theorem ofInt_u8 (a : Nat) (ha : a < 256) : (BitVec.ofInt 8 (a : Int)).toNat = a := by
  rw [BitVec.ofInt_natCast, BitVec.toNat_ofNat]; exact Nat.mod_eq_of_lt (by omega)
theorem u8_and (a b c : Nat) (ha : a < 256) (hb : b < 256) (hc : a &&& b = c) : IntKind.u8.wrap ((BitVec.ofInt IntKind.u8.bits (a : Int) &&& BitVec.ofInt IntKind.u8.bits (b : Int)).toNat : Int) = (c : Int) := by
  subst hc
  show IntKind.u8.wrap ((BitVec.ofInt 8 (a : Int) &&& BitVec.ofInt 8 (b : Int)).toNat : Int) = _
  have hx : a &&& b ≤ a := Nat.and_le_left
  rw [BitVec.toNat_and, ofInt_u8 a ha, ofInt_u8 b hb]
  exact Sym.inK_wrap (by simp only [Sym.inK]; omega)
theorem i64_and (a b c : Nat) (ha : a < 9223372036854775808) (hb : b < 9223372036854775808) (hc : a &&& b = c) : IntKind.i64.wrap ((BitVec.ofInt IntKind.i64.bits (a : Int) &&& BitVec.ofInt IntKind.i64.bits (b : Int)).toNat : Int) = (c : Int) := by
  subst hc
  exact i64_and_nat a b ha hb
theorem i64_or (a b c : Nat) (ha : a < 9223372036854775808) (hb : b < 9223372036854775808) (hc : a ||| b = c) : IntKind.i64.wrap ((BitVec.ofInt IntKind.i64.bits (a : Int) ||| BitVec.ofInt IntKind.i64.bits (b : Int)).toNat : Int) = (c : Int) := by
  subst hc
  exact i64_or_nat a b ha hb
theorem and_31 (a : Nat) : a &&& 31 = a % 32 := Nat.and_two_pow_sub_one_eq_mod a 5
theorem and_15 (a : Nat) : a &&& 15 = a % 16 := Nat.and_two_pow_sub_one_eq_mod a 4
theorem and_7 (a : Nat) : a &&& 7 = a % 8 := Nat.and_two_pow_sub_one_eq_mod a 3
theorem and_63 (a : Nat) : a &&& 63 = a % 64 := Nat.and_two_pow_sub_one_eq_mod a 6
set_option maxRecDepth 100000 in
theorem and_192 : ∀ a : Nat, a < 256 → a &&& 192 = a / 64 * 64 := by decide
theorem or_64 (a b : Nat) (hb : b < 64) : a * 64 ||| b = a * 64 + b := by
  have := Nat.two_pow_add_eq_or_of_lt (i := 6) (b := b) hb a
  rw [Nat.mul_comm a 64]
  exact this.symm
end Bi
end Go.Proofs.YtdkhkfdenlabaaaGreatDoor
namespace Go.Proofs.YtdkhkfdenlabaaaGreatDoor
open Go.RowKit
open Sym
end Go.Proofs.YtdkhkfdenlabaaaGreatDoor
namespace Go.Proofs.YtdkhkfdenlabaaaGreatDoor
open Go.RowKit Go.Shelf
attribute [local go_sem] Oper.semAt_some
/-- a limb -/
abbrev Dg := { d : Nat // d < 1000000000 }
/-- what has come when k rounds are over, from the last digit down -/
def downto (D : Nat → Dg) (len k : Nat) : List (Nat × Dg) := (List.range k).map fun j => (len - 1 - j, D (len - 1 - j))
theorem downto_succ (D : Nat → Dg) (len k : Nat) : downto D len (k + 1) = downto D len k ++ [(len - 1 - k, D (len - 1 - k))] := by simp [downto, List.range_succ]
theorem downto_length (D : Nat → Dg) (len k : Nat) : (downto D len k).length = k := by simp [downto]
/-- cells that a round leaves alone -/
def KpB (n₀ Bs : Nat) (W W' : World) : Prop := ∀ (p : Addr) (v : Value), p.block < n₀ ∨ p.block = Bs → W.cell? p = some v → W'.cell? p = some v
theorem KpB.refl (n₀ Bs : Nat) (W : World) : KpB n₀ Bs W W := fun _ _ _ h => h
theorem KpB.trans {n₀ Bs : Nat} {A B C : World} (h : KpB n₀ Bs A B) (k : KpB n₀ Bs B C) : KpB n₀ Bs A C := fun p v hp hv => k p v hp (h p v hp hv)
abbrev encB (x : Nat × Dg) : Array Value := #[.int .i64 (x.1 : Int), .int .u32 (x.2.1 : Int)]
set_option maxRecDepth 100000 in
set_option maxHeartbeats 4000000 in
theorem back1_in (F : Fence) (n : Nat) (h133 : F.fn 251) (hro : F.round = none) (hn : 1 ≤ n) (l Bs n₀ len cap : Nat) (ad : Addr) (D : Nat → Dg) (hreach : len ≤ 100000000) (hb : ad.block < n₀) (J Jx : List (Nat × Dg) → World → Prop)
    (hY : ∀ pre x W, J pre W → pre.length < len → YieldAt F (n - 1) Tryz.prog l (encB x) W fun e W' =>
      (e = .returned (.bool true) ∧ J (pre ++ [x]) W' ∧ KpB n₀ Bs W W') ∨ (e = .returned (.bool false) ∧ Jx (pre ++ [x]) W'))
    (W : World) (hBs : W.cell? ⟨Bs, 0, none⟩ = some (.slice (some ad) len cap)) (hc : ∀ j, j < len → W.cell? (ad.add j) = some (.int .u32 ((D j).1 : Int))) (h0 : J [] W) :
    CallsIn F n Tryz.prog 251 #[.func (.yield l) #[] #[], .pointer (some ⟨Bs, 0, none⟩)] W fun e W' => (∃ v, e = .returned v) ∧
      ((∃ ys, ys = downto D len len ∧ J ys W') ∨ (∃ pre, (∃ k, k ≤ len ∧ pre = downto D len k) ∧ Jx pre W')) := by
  refine callsIn_of_wp Tryz.func251 rfl h133 ?_ hro
  simp only [Tryz.ntmps251, List.size_toArray, List.length_cons, List.length_nil, Nat.reduceAdd, Nat.reduceSub, Array.replicate_succ, Array.replicate_zero, List.push_toArray, List.append_toArray, List.nil_append, List.cons_append]
  gi_wp2
  gi_loopw [3] (fun i wr => ∃ m k : Nat, m + k = len ∧ i = .int .i64 ((m : Int) - 1) ∧ J (downto D len k) wr ∧ KpB n₀ Bs W wr)
    (fun i _ => (intOf i + 1).toNat)
  case atStart => exact ⟨len, 0, rfl, rfl, h0, KpB.refl _ _ _⟩
  case round =>
    obtain ⟨m, k, hk, rfl, hJs, hnx⟩ := hrel
    have hcB := hnx _ _ (.inr rfl) hBs
    cases m with
    | zero =>
      obtain rfl : k = len := by omega
      gi_wp2
      go_end0
      exact ⟨⟨_, rfl⟩, .inl ⟨_, rfl, hJs⟩⟩
    | succ m =>
      have e0 : ((m + 1 : Nat) : Int) - 1 = (m : Int) := by omega
      rw [e0]
      have e1 : len - 1 - k = m := by omega
      have hlt : m < len := by omega
      have hcx := hnx _ _ (.inl (by rw [Sym.add_block]; exact hb)) (hc m (by omega))
      obtain ⟨fn, tmps, assign, body, hy, hR⟩ := hY _ (m, D m) wr hJs (by rw [downto_length]; omega)
      dsimp only [encB] at hy
      gi_wp2
      refine hR.mono ?_
      rintro e W3 (⟨rfl, hJ3, hk3⟩ | ⟨rfl, hJx3⟩)
      · gi_wp2
        go_roundw
        case rel => exact ⟨m, k + 1, by omega, by simp, by rw [downto_succ, e1]; exact hJ3, hnx.trans hk3⟩
        case measure => simp [intOf]
      · gi_wp2
        refine bodyPost_ret (results_none rfl _ _ _) rfl ?_
        exact ⟨⟨_, rfl⟩, .inr ⟨_, ⟨k + 1, by omega, by rw [downto_succ, e1]⟩, hJx3⟩⟩
set_option maxHeartbeats 1000000 in
theorem back_in (F : Fence) (n : Nat) (h : F.fn 228) (hro : F.round = none) (a : Option Addr) (len cap : Nat) (w : World) :
    CallsIn F n Tryz.prog 228 #[.slice a len cap] w fun e w' => e = .returned (.func (.func 251) #[] #[.pointer (some ⟨w.heap.size, 0, none⟩)]) ∧ w' = w.alloc (.cells #[.slice a len cap] 137) := by
  refine callsIn_of_wp Tryz.func228 rfl h ?_ hro
  simp only [Tryz.ntmps228, List.size_toArray, List.length_cons, List.length_nil, Nat.reduceAdd, Nat.reduceSub, Array.replicate_succ, Array.replicate_zero, List.push_toArray, List.append_toArray, List.nil_append, List.cons_append]
  gi_wp2
  go_ret
  exact ⟨rfl, rfl⟩
theorem back_stops (F : Fence) (n : Nat) (h133 : F.fn 251) (hro : F.round = none) (hn : 1 ≤ n) (Bs n₀ len cap : Nat) (ad : Addr) (D : Nat → Dg) (hreach : len ≤ 100000000) (w : World) (hBw : Bs < w.heap.size) (hn₀ : n₀ ≤ w.heap.size) (hb : ad.block < n₀)
    (hBs : w.cell? ⟨Bs, 0, none⟩ = some (.slice (some ad) len cap)) (hc : ∀ j, j < len → w.cell? (ad.add j) = some (.int .u32 ((D j).1 : Int))) :
    SeqStopsK F n Tryz.prog 251 #[.pointer (some ⟨Bs, 0, none⟩)] encB (KpB n₀ Bs) (fun ys => ys = downto D len len) (fun pre => ∃ k, k ≤ len ∧ pre = downto D len k) len w := fun l J Jx W hW _ _ hY h0 =>
  back1_in F n h133 hro hn l Bs n₀ len cap ad D hreach hb J Jx hY W ((hW.cell (p := ⟨Bs, 0, none⟩) hBw).trans hBs) (fun j hj => (hW.cell (p := ad.add j) (by rw [Sym.add_block]; exact Nat.lt_of_lt_of_le hb hn₀)).trans (hc j hj)) h0
end Go.Proofs.YtdkhkfdenlabaaaGreatDoor
namespace Go.Proofs.YtdkhkfdenlabaaaGreatDoor
open Go.RowKit
namespace Sym
def env : Env := [(1, ⟨.other, 1, false, [.any (Go.Value.nilFunc)]⟩),
  (2, ⟨.int .i64, 1, false, [.int .i64 0]⟩),
  (3, ⟨.int .i64, 1, false, [.int .i64 0]⟩),
  (4, ⟨.bool, 1, false, [.lit false]⟩),
  (5, ⟨.int .u8, 1, false, [.int .u8 0]⟩),
  (6, ⟨.int .u8, 1, false, [.int .u8 0]⟩),
  (7, ⟨.struct [(0, 2), (1, 3), (2, 4), (3, 6)], 4, true, [.int .i64 0, .int .i64 0, .lit false, .int .u8 0]⟩),
  (8, ⟨.struct [(0, 2), (1, 3), (2, 4), (3, 6)], 4, true, [.int .i64 0, .int .i64 0, .lit false, .int .u8 0]⟩),
  (9, ⟨.str, 1, false, [.str []]⟩),
  (10, ⟨.str, 1, false, [.str []]⟩),
  (11, ⟨.str, 1, false, [.str []]⟩),
  (12, ⟨.int .u64, 1, false, [.int .u64 0]⟩),
  (13, ⟨.struct [(0, 9), (1, 12)], 2, true, [.str [], .int .u64 0]⟩),
  (14, ⟨.struct [(0, 9), (1, 12)], 2, true, [.str [], .int .u64 0]⟩),
  (15, ⟨.other, 1, false, [.any (Go.Value.pointer none)]⟩),
  (16, ⟨.other, 1, false, [.any (Go.Value.pointer none)]⟩),
  (17, ⟨.other, 1, false, [.any (Go.Value.pointer none)]⟩),
  (18, ⟨.struct [(0, 17)], 1, true, [.any (Go.Value.pointer none)]⟩),
  (19, ⟨.struct [(0, 17)], 1, true, [.any (Go.Value.pointer none)]⟩),
  (20, ⟨.other, 1, false, [.any (Go.Value.nilIface)]⟩),
  (21, ⟨.int .i32, 1, false, [.int .i32 0]⟩),
  (22, ⟨.other, 1, false, [.any (Go.Value.nilFunc)]⟩),
  (23, ⟨.other, 1, false, [.any (Go.Value.nilFunc)]⟩),
  (24, ⟨.struct [(0, 9), (1, 9)], 2, true, [.str [], .str []]⟩),
  (25, ⟨.struct [(0, 9), (1, 9)], 2, true, [.str [], .str []]⟩),
  (26, ⟨.slice 28, 1, false, [.any (Go.Value.slice none 0 0)]⟩),
  (27, ⟨.struct [(0, 3), (1, 25), (3, 9), (4, 4), (5, 3), (6, 3), (7, 3), (8, 26)], 9, true, [.int .i64 0, .str [], .str [], .str [], .lit false, .int .i64 0, .int .i64 0, .int .i64 0, .any (Go.Value.slice none 0 0)]⟩),
  (28, ⟨.struct [(0, 3), (1, 25), (3, 9), (4, 4), (5, 3), (6, 3), (7, 3), (8, 26)], 9, true, [.int .i64 0, .str [], .str [], .str [], .lit false, .int .i64 0, .int .i64 0, .int .i64 0, .any (Go.Value.slice none 0 0)]⟩),
  (29, ⟨.other, 1, false, [.any (Go.Value.nilFunc)]⟩),
  (30, ⟨.other, 1, false, [.any (Go.Value.nilFunc)]⟩),
  (31, ⟨.int .i64, 1, false, [.int .i64 0]⟩),
  (32, ⟨.other, 1, false, [.any (Go.Value.nilFunc)]⟩),
  (34, ⟨.other, 1, false, [.any (Go.Value.nilFunc)]⟩),
  (35, ⟨.other, 1, false, [.any (Go.Value.nilFunc)]⟩),
  (36, ⟨.other, 1, false, [.any (Go.Value.nilFunc)]⟩),
  (37, ⟨.other, 1, false, [.any (Go.Value.nilFunc)]⟩),
  (38, ⟨.other, 1, false, [.any (Go.Value.nilFunc)]⟩),
  (39, ⟨.other, 1, false, [.any (Go.Value.nilFunc)]⟩),
  (40, ⟨.other, 1, false, [.any (Go.Value.nilFunc)]⟩),
  (42, ⟨.other, 1, false, [.any (Go.Value.nilFunc)]⟩),
  (43, ⟨.other, 1, false, [.any (Go.Value.nilFunc)]⟩),
  (45, ⟨.other, 1, false, [.any (Go.Value.nilFunc)]⟩),
  (47, ⟨.other, 1, false, [.any (Go.Value.nilFunc)]⟩),
  (48, ⟨.other, 1, false, [.any (Go.Value.nilFunc)]⟩),
  (50, ⟨.other, 1, false, [.any (Go.Value.nilFunc)]⟩),
  (51, ⟨.other, 1, false, [.any (Go.Value.nilFunc)]⟩),
  (52, ⟨.other, 1, false, [.any (Go.Value.nilFunc)]⟩),
  (53, ⟨.other, 1, false, [.any (Go.Value.nilFunc)]⟩),
  (54, ⟨.other, 1, false, [.any (Go.Value.nilFunc)]⟩),
  (55, ⟨.other, 1, false, [.any (Go.Value.nilFunc)]⟩),
  (56, ⟨.other, 1, false, [.any (Go.Value.nilFunc)]⟩),
  (57, ⟨.other, 1, false, [.any (Go.Value.nilFunc)]⟩),
  (58, ⟨.other, 1, false, [.any (Go.Value.nilFunc)]⟩),
  (60, ⟨.other, 1, false, [.any (Go.Value.nilFunc)]⟩),
  (61, ⟨.other, 1, false, [.any (Go.Value.nilFunc)]⟩),
  (63, ⟨.other, 1, false, [.any (Go.Value.nilFunc)]⟩),
  (64, ⟨.other, 1, false, [.any (Go.Value.nilFunc)]⟩),
  (66, ⟨.other, 1, false, [.any (Go.Value.nilFunc)]⟩),
  (68, ⟨.other, 1, false, [.any (Go.Value.nilFunc)]⟩),
  (69, ⟨.slice 3, 1, false, [.any (Go.Value.slice none 0 0)]⟩),
  (70, ⟨.slice 3, 1, false, [.any (Go.Value.slice none 0 0)]⟩),
  (71, ⟨.struct [(0, 4), (1, 70), (2, 70)], 3, true, [.lit false, .any (Go.Value.slice none 0 0), .any (Go.Value.slice none 0 0)]⟩),
  (72, ⟨.struct [(0, 4), (1, 70), (2, 70)], 3, true, [.lit false, .any (Go.Value.slice none 0 0), .any (Go.Value.slice none 0 0)]⟩),
  (74, ⟨.other, 1, false, [.any (Go.Value.nilFunc)]⟩),
  (75, ⟨.other, 1, false, [.any (Go.Value.nilFunc)]⟩),
  (76, ⟨.other, 1, false, [.any (Go.Value.nilFunc)]⟩),
  (77, ⟨.other, 1, false, [.any (Go.Value.nilFunc)]⟩),
  (79, ⟨.other, 1, false, [.any (Go.Value.nilFunc)]⟩),
  (80, ⟨.other, 1, false, [.any (Go.Value.nilFunc)]⟩),
  (81, ⟨.other, 9, true, [.str [], .str [], .str [], .str [], .str [], .str [], .str [], .str [], .str []]⟩),
  (82, ⟨.other, 1, false, [.any (Go.Value.nilFunc)]⟩),
  (83, ⟨.other, 5, true, [.any (Go.Value.nilFunc), .any (Go.Value.nilFunc), .any (Go.Value.nilFunc), .any (Go.Value.nilFunc), .any (Go.Value.nilFunc)]⟩),
  (85, ⟨.other, 1, false, [.any (Go.Value.nilFunc)]⟩),
  (86, ⟨.other, 5, true, [.any (Go.Value.nilFunc), .any (Go.Value.nilFunc), .any (Go.Value.nilFunc), .any (Go.Value.nilFunc), .any (Go.Value.nilFunc)]⟩),
  (88, ⟨.other, 1, false, [.any (Go.Value.nilFunc)]⟩),
  (89, ⟨.other, 1, false, [.any (Go.Value.nilFunc)]⟩),
  (90, ⟨.other, 1, false, [.any (Go.Value.nilFunc)]⟩),
  (91, ⟨.other, 1, false, [.any (Go.Value.nilFunc)]⟩),
  (92, ⟨.other, 1, false, [.any (Go.Value.nilFunc)]⟩),
  (93, ⟨.other, 1, false, [.any (Go.Value.nilFunc)]⟩),
  (94, ⟨.other, 1, false, [.any (Go.Value.nilFunc)]⟩),
  (95, ⟨.other, 12, true, [.int .i64 0, .int .i64 0, .int .i64 0, .int .i64 0, .int .i64 0, .int .i64 0, .int .i64 0, .int .i64 0, .int .i64 0, .int .i64 0, .int .i64 0, .int .i64 0]⟩),
  (96, ⟨.other, 1, false, [.any (Go.Value.nilFunc)]⟩),
  (97, ⟨.other, 1, false, [.any (Go.Value.nilFunc)]⟩),
  (98, ⟨.other, 1, false, [.any (Go.Value.nilFunc)]⟩),
  (99, ⟨.other, 1, false, [.any (Go.Value.nilFunc)]⟩),
  (100, ⟨.other, 1, false, [.any (Go.Value.nilFunc)]⟩),
  (101, ⟨.other, 1, false, [.any (Go.Value.nilFunc)]⟩),
  (102, ⟨.other, 1, false, [.any (Go.Value.nilFunc)]⟩),
  (103, ⟨.other, 1, false, [.any (Go.Value.nilFunc)]⟩),
  (104, ⟨.other, 1, false, [.any (Go.Value.nilFunc)]⟩),
  (105, ⟨.other, 1, false, [.any (Go.Value.nilFunc)]⟩),
  (106, ⟨.other, 1, false, [.any (Go.Value.nilFunc)]⟩),
  (107, ⟨.other, 1, false, [.any (Go.Value.nilFunc)]⟩),
  (108, ⟨.other, 1, false, [.any (Go.Value.nilFunc)]⟩),
  (110, ⟨.other, 1, false, [.any (Go.Value.nilFunc)]⟩),
  (112, ⟨.other, 1, false, [.any (Go.Value.nilFunc)]⟩),
  (113, ⟨.slice 5, 1, false, [.any (Go.Value.slice none 0 0)]⟩),
  (115, ⟨.other, 1, false, [.any (Go.Value.nilFunc)]⟩),
  (116, ⟨.other, 1, false, [.any (Go.Value.nilFunc)]⟩),
  (117, ⟨.other, 1, false, [.any (Go.Value.nilFunc)]⟩),
  (119, ⟨.other, 1, false, [.any (Go.Value.nilFunc)]⟩),
  (120, ⟨.other, 1, false, [.any (Go.Value.nilFunc)]⟩),
  (121, ⟨.slice 9, 1, false, [.any (Go.Value.slice none 0 0)]⟩),
  (122, ⟨.other, 1, false, [.any (Go.Value.nilFunc)]⟩),
  (123, ⟨.other, 1, false, [.any (Go.Value.nilFunc)]⟩),
  (125, ⟨.other, 1, false, [.any (Go.Value.nilFunc)]⟩),
  (126, ⟨.other, 1, false, [.any (Go.Value.nilFunc)]⟩),
  (127, ⟨.other, 1, false, [.any (Go.Value.nilFunc)]⟩),
  (128, ⟨.other, 1, false, [.any (Go.Value.nilFunc)]⟩),
  (130, ⟨.other, 1, false, [.any (Go.Value.nilFunc)]⟩),
  (131, ⟨.other, 3, true, [.str [], .str [], .str []]⟩),
  (132, ⟨.other, 1, false, [.any (Go.Value.nilFunc)]⟩),
  (133, ⟨.other, 1, false, [.any (Go.Value.nilFunc)]⟩),
  (134, ⟨.other, 1, false, [.any (Go.Value.nilFunc)]⟩),
  (135, ⟨.other, 1, false, [.any (Go.Value.nilFunc)]⟩),
  (136, ⟨.slice 161, 1, false, [.any (Go.Value.slice none 0 0)]⟩),
  (137, ⟨.slice 161, 1, false, [.any (Go.Value.slice none 0 0)]⟩),
  (138, ⟨.struct [(0, 4), (1, 137), (2, 137)], 3, true, [.lit false, .any (Go.Value.slice none 0 0), .any (Go.Value.slice none 0 0)]⟩),
  (139, ⟨.struct [(0, 4), (1, 137), (2, 137)], 3, true, [.lit false, .any (Go.Value.slice none 0 0), .any (Go.Value.slice none 0 0)]⟩),
  (141, ⟨.other, 1, false, [.any (Go.Value.nilFunc)]⟩),
  (142, ⟨.other, 1, false, [.any (Go.Value.nilFunc)]⟩),
  (143, ⟨.other, 1, false, [.any (Go.Value.nilFunc)]⟩),
  (144, ⟨.other, 1, false, [.any (Go.Value.nilFunc)]⟩),
  (148, ⟨.other, 1, false, [.any (Go.Value.nilFunc)]⟩),
  (149, ⟨.other, 1, false, [.any (Go.Value.nilFunc)]⟩),
  (150, ⟨.other, 1, false, [.any (Go.Value.pointer none)]⟩),
  (152, ⟨.other, 1, false, [.any (Go.Value.nilFunc)]⟩),
  (153, ⟨.other, 1, false, [.any (Go.Value.nilFunc)]⟩),
  (154, ⟨.other, 1, false, [.any (Go.Value.nilFunc)]⟩),
  (155, ⟨.other, 1, false, [.any (Go.Value.nilFunc)]⟩),
  (156, ⟨.other, 1, false, [.any (Go.Value.nilFunc)]⟩),
  (158, ⟨.other, 1, false, [.any (Go.Value.nilFunc)]⟩),
  (159, ⟨.other, 1, false, [.any (Go.Value.nilFunc)]⟩),
  (160, ⟨.other, 1, false, [.any (Go.Value.nilFunc)]⟩),
  (161, ⟨.int .u32, 1, false, [.int .u32 0]⟩),
  (162, ⟨.other, 1, false, [.any (Go.Value.nilFunc)]⟩),
  (163, ⟨.other, 1, false, [.any (Go.Value.nilFunc)]⟩),
  (164, ⟨.other, 1, false, [.any (Go.Value.nilFunc)]⟩),
  (165, ⟨.other, 1, false, [.any (Go.Value.nilFunc)]⟩),
  (166, ⟨.other, 1, false, [.any (Go.Value.nilFunc)]⟩),
  (167, ⟨.other, 1, false, [.any (Go.Value.nilFunc)]⟩),
  (168, ⟨.other, 1, false, [.any (Go.Value.nilIface)]⟩),
  (169, ⟨.other, 1, false, [.any (Go.Value.nilIface)]⟩),
  (171, ⟨.other, 1, false, [.any (Go.Value.nilFunc)]⟩),
  (172, ⟨.int .u64, 1, false, [.int .u64 0]⟩),
  (173, ⟨.other, 1, false, [.any (Go.Value.nilFunc)]⟩),
  (174, ⟨.other, 1, false, [.any (Go.Value.nilFunc)]⟩),
  (175, ⟨.other, 1, false, [.any (Go.Value.nilFunc)]⟩),
  (176, ⟨.other, 1, false, [.any (Go.Value.nilFunc)]⟩),
  (177, ⟨.other, 1, false, [.any (Go.Value.nilFunc)]⟩),
  (179, ⟨.other, 1, false, [.any (Go.Value.nilFunc)]⟩),
  (181, ⟨.other, 1, false, [.any (Go.Value.nilFunc)]⟩),
  (182, ⟨.other, 1, false, [.any (Go.Value.nilFunc)]⟩),
  (184, ⟨.struct [(0, 5), (1, 5)], 2, true, [.int .u8 0, .int .u8 0]⟩),
  (185, ⟨.struct [(0, 5), (1, 5)], 2, true, [.int .u8 0, .int .u8 0]⟩),
  (187, ⟨.other, 1, false, [.any (Go.Value.nilFunc)]⟩),
  (188, ⟨.other, 1, false, [.any (Go.Value.nilFunc)]⟩),
  (189, ⟨.int .u64, 1, false, [.int .u64 0]⟩),
  (191, ⟨.other, 1, false, [.any (Go.Value.nilFunc)]⟩),
  (192, ⟨.other, 1, false, [.any (Go.Value.nilFunc)]⟩),
  (193, ⟨.other, 1, false, [.any (Go.Value.nilFunc)]⟩),
  (194, ⟨.other, 1, false, [.any (Go.Value.nilFunc)]⟩),
  (195, ⟨.other, 1, false, [.any (Go.Value.nilFunc)]⟩),
  (196, ⟨.other, 1, false, [.any (Go.Value.nilFunc)]⟩),
  (197, ⟨.other, 1, false, [.any (Go.Value.nilFunc)]⟩),
  (198, ⟨.other, 1, false, [.any (Go.Value.nilFunc)]⟩),
  (199, ⟨.other, 1, false, [.any (Go.Value.nilFunc)]⟩),
  (201, ⟨.other, 1, false, [.any (Go.Value.nilFunc)]⟩),
  (202, ⟨.other, 1, false, [.any (Go.Value.pointer none)]⟩),
  (203, ⟨.struct [(0, 202), (1, 113)], 2, true, [.any (Go.Value.pointer none), .any (Go.Value.slice none 0 0)]⟩),
  (204, ⟨.struct [(0, 202), (1, 113)], 2, true, [.any (Go.Value.pointer none), .any (Go.Value.slice none 0 0)]⟩),
  (205, ⟨.other, 1, false, [.any (Go.Value.nilFunc)]⟩),
  (206, ⟨.other, 1, false, [.any (Go.Value.nilFunc)]⟩),
  (207, ⟨.other, 1, false, [.any (Go.Value.nilFunc)]⟩),
  (208, ⟨.other, 1, false, [.any (Go.Value.nilFunc)]⟩),
  (209, ⟨.other, 1, false, [.any (Go.Value.nilFunc)]⟩),
  (210, ⟨.other, 1, false, [.any (Go.Value.nilFunc)]⟩),
  (211, ⟨.int .i64, 1, false, [.int .i64 0]⟩),
  (213, ⟨.other, 1, false, [.any (Go.Value.nilFunc)]⟩),
  (214, ⟨.other, 1, false, [.any (Go.Value.pointer none)]⟩),
  (215, ⟨.other, 1, false, [.any (Go.Value.nilFunc)]⟩),
  (216, ⟨.other, 1, false, [.any (Go.Value.nilFunc)]⟩),
  (218, ⟨.other, 1, false, [.any (Go.Value.nilFunc)]⟩),
  (219, ⟨.other, 1, false, [.any (Go.Value.nilFunc)]⟩),
  (221, ⟨.other, 1, false, [.any (Go.Value.nilFunc)]⟩),
  (222, ⟨.other, 1, false, [.any (Go.Value.nilFunc)]⟩),
  (224, ⟨.other, 1, false, [.any (Go.Value.nilFunc)]⟩),
  (226, ⟨.other, 1, false, [.any (Go.Value.nilFunc)]⟩),
  (227, ⟨.other, 1, false, [.any (Go.Value.pointer none)]⟩),
  (228, ⟨.other, 1, false, [.any (Go.Value.nilFunc)]⟩),
  (229, ⟨.other, 1, false, [.any (Go.Value.nilFunc)]⟩),
  (231, ⟨.other, 1, false, [.any (Go.Value.nilFunc)]⟩),
  (232, ⟨.struct [(0, 9), (1, 9), (2, 169)], 3, true, [.str [], .str [], .any (Go.Value.nilIface)]⟩),
  (233, ⟨.struct [(0, 9), (1, 9), (2, 169)], 3, true, [.str [], .str [], .any (Go.Value.nilIface)]⟩),
  (234, ⟨.other, 1, false, [.any (Go.Value.nilFunc)]⟩),
  (237, ⟨.other, 1, false, [.any (Go.Value.nilFunc)]⟩),
  (238, ⟨.other, 1, false, [.any (Go.Value.pointer none)]⟩),
  (239, ⟨.other, 1, false, [.any (Go.Value.nilFunc)]⟩),
  (240, ⟨.other, 1, false, [.any (Go.Value.nilFunc)]⟩),
  (241, ⟨.other, 1, false, [.any (Go.Value.nilFunc)]⟩),
  (242, ⟨.other, 1, false, [.any (Go.Value.pointer none)]⟩),
  (243, ⟨.struct [(0, 9)], 1, true, [.str []]⟩),
  (244, ⟨.struct [(0, 9)], 1, true, [.str []]⟩),
  (245, ⟨.other, 1, false, [.any (Go.Value.nilFunc)]⟩),
  (248, ⟨.struct [(0, 17), (1, 17), (2, 17), (3, 9)], 4, true, [.any (Go.Value.pointer none), .any (Go.Value.pointer none), .any (Go.Value.pointer none), .str []]⟩),
  (249, ⟨.struct [(0, 17), (1, 17), (2, 17), (3, 9)], 4, true, [.any (Go.Value.pointer none), .any (Go.Value.pointer none), .any (Go.Value.pointer none), .str []]⟩),
  (250, ⟨.other, 0, true, []⟩),
  (251, ⟨.struct [(0, 250)], 0, true, []⟩),
  (252, ⟨.struct [(0, 250)], 0, true, []⟩),
  (253, ⟨.int .u8, 1, false, [.int .u8 0]⟩),
  (254, ⟨.int .u8, 1, false, [.int .u8 0]⟩),
  (255, ⟨.other, 1, false, [.any (Go.Value.nilFunc)]⟩),
  (256, ⟨.int .i32, 1, false, [.int .i32 0]⟩),
  (257, ⟨.int .i32, 1, false, [.int .i32 0]⟩),
  (258, ⟨.struct [(0, 12), (1, 12), (2, 161), (3, 253), (4, 5), (5, 5), (6, 254), (7, 255), (8, 227), (9, 256), (10, 257)], 11, true, [.int .u64 0, .int .u64 0, .int .u32 0, .int .u8 0, .int .u8 0, .int .u8 0, .int .u8 0, .any (Go.Value.nilFunc), .any (Go.Value.pointer none), .int .i32 0, .int .i32 0]⟩),
  (259, ⟨.struct [(0, 12), (1, 12), (2, 161), (3, 253), (4, 5), (5, 5), (6, 254), (7, 255), (8, 227), (9, 256), (10, 257)], 11, true, [.int .u64 0, .int .u64 0, .int .u32 0, .int .u8 0, .int .u8 0, .int .u8 0, .int .u8 0, .any (Go.Value.nilFunc), .any (Go.Value.pointer none), .int .i32 0, .int .i32 0]⟩)]
set_option maxRecDepth 100000 in
theorem env_ok : EnvOK Tryz.prog env := ⟨⟨Tryz.sizeOf1, Tryz.isAgg1, fun w => ⟨_, Tryz.zeroValue1 w, fun _ => rfl, ⟨rfl, trivial⟩⟩, trivial⟩,
  ⟨Tryz.sizeOf2, Tryz.isAgg2, fun w => ⟨_, Tryz.zeroValue2 w, fun _ => rfl, ⟨trivial, trivial⟩⟩, Tryz.underlying2⟩,
  ⟨Tryz.sizeOf3, Tryz.isAgg3, fun w => ⟨_, Tryz.zeroValue3 w, fun _ => rfl, ⟨trivial, trivial⟩⟩, Tryz.underlying3⟩,
  ⟨Tryz.sizeOf4, Tryz.isAgg4, fun w => ⟨_, Tryz.zeroValue4 w, fun _ => rfl, ⟨trivial, trivial⟩⟩, Tryz.underlying4⟩,
  ⟨Tryz.sizeOf5, Tryz.isAgg5, fun w => ⟨_, Tryz.zeroValue5 w, fun _ => rfl, ⟨trivial, trivial⟩⟩, Tryz.underlying5⟩,
  ⟨Tryz.sizeOf6, Tryz.isAgg6, fun w => ⟨_, Tryz.zeroValue6 w, fun _ => rfl, ⟨trivial, trivial⟩⟩, Tryz.underlying6⟩,
  ⟨Tryz.sizeOf7, Tryz.isAgg7, fun w => ⟨_, Tryz.zeroValue7 w, fun _ => rfl, ⟨trivial, trivial, trivial, trivial, trivial⟩⟩, ⟨_, Tryz.underlying7, rfl⟩⟩,
  ⟨Tryz.sizeOf8, Tryz.isAgg8, fun w => ⟨_, Tryz.zeroValue8 w, fun _ => rfl, ⟨trivial, trivial, trivial, trivial, trivial⟩⟩, ⟨_, Tryz.underlying8, rfl⟩⟩,
  ⟨Tryz.sizeOf9, Tryz.isAgg9, fun w => ⟨_, Tryz.zeroValue9 w, fun _ => rfl, ⟨trivial, trivial⟩⟩, Tryz.underlying9⟩,
  ⟨Tryz.sizeOf10, Tryz.isAgg10, fun w => ⟨_, Tryz.zeroValue10 w, fun _ => rfl, ⟨trivial, trivial⟩⟩, Tryz.underlying10⟩,
  ⟨Tryz.sizeOf11, Tryz.isAgg11, fun w => ⟨_, Tryz.zeroValue11 w, fun _ => rfl, ⟨trivial, trivial⟩⟩, Tryz.underlying11⟩,
  ⟨Tryz.sizeOf12, Tryz.isAgg12, fun w => ⟨_, Tryz.zeroValue12 w, fun _ => rfl, ⟨trivial, trivial⟩⟩, Tryz.underlying12⟩,
  ⟨Tryz.sizeOf13, Tryz.isAgg13, fun w => ⟨_, Tryz.zeroValue13 w, fun _ => rfl, ⟨trivial, trivial, trivial⟩⟩, ⟨_, Tryz.underlying13, rfl⟩⟩,
  ⟨Tryz.sizeOf14, Tryz.isAgg14, fun w => ⟨_, Tryz.zeroValue14 w, fun _ => rfl, ⟨trivial, trivial, trivial⟩⟩, ⟨_, Tryz.underlying14, rfl⟩⟩,
  ⟨Tryz.sizeOf15, Tryz.isAgg15, fun w => ⟨_, Tryz.zeroValue15 w, fun _ => rfl, ⟨rfl, trivial⟩⟩, trivial⟩,
  ⟨Tryz.sizeOf16, Tryz.isAgg16, fun w => ⟨_, Tryz.zeroValue16 w, fun _ => rfl, ⟨rfl, trivial⟩⟩, trivial⟩,
  ⟨Tryz.sizeOf17, Tryz.isAgg17, fun w => ⟨_, Tryz.zeroValue17 w, fun _ => rfl, ⟨rfl, trivial⟩⟩, trivial⟩,
  ⟨Tryz.sizeOf18, Tryz.isAgg18, fun w => ⟨_, Tryz.zeroValue18 w, fun _ => rfl, ⟨rfl, trivial⟩⟩, ⟨_, Tryz.underlying18, rfl⟩⟩,
  ⟨Tryz.sizeOf19, Tryz.isAgg19, fun w => ⟨_, Tryz.zeroValue19 w, fun _ => rfl, ⟨rfl, trivial⟩⟩, ⟨_, Tryz.underlying19, rfl⟩⟩,
  ⟨Tryz.sizeOf20, Tryz.isAgg20, fun w => ⟨_, Tryz.zeroValue20 w, fun _ => rfl, ⟨rfl, trivial⟩⟩, trivial⟩,
  ⟨Tryz.sizeOf21, Tryz.isAgg21, fun w => ⟨_, Tryz.zeroValue21 w, fun _ => rfl, ⟨trivial, trivial⟩⟩, Tryz.underlying21⟩,
  ⟨Tryz.sizeOf22, Tryz.isAgg22, fun w => ⟨_, Tryz.zeroValue22 w, fun _ => rfl, ⟨rfl, trivial⟩⟩, trivial⟩,
  ⟨Tryz.sizeOf23, Tryz.isAgg23, fun w => ⟨_, Tryz.zeroValue23 w, fun _ => rfl, ⟨rfl, trivial⟩⟩, trivial⟩,
  ⟨Tryz.sizeOf24, Tryz.isAgg24, fun w => ⟨_, Tryz.zeroValue24 w, fun _ => rfl, ⟨trivial, trivial, trivial⟩⟩, ⟨_, Tryz.underlying24, rfl⟩⟩,
  ⟨Tryz.sizeOf25, Tryz.isAgg25, fun w => ⟨_, Tryz.zeroValue25 w, fun _ => rfl, ⟨trivial, trivial, trivial⟩⟩, ⟨_, Tryz.underlying25, rfl⟩⟩,
  ⟨Tryz.sizeOf26, Tryz.isAgg26, fun w => ⟨_, Tryz.zeroValue26 w, fun _ => rfl, ⟨rfl, trivial⟩⟩, Tryz.underlying26⟩,
  ⟨Tryz.sizeOf27, Tryz.isAgg27, fun w => ⟨_, Tryz.zeroValue27 w, fun _ => rfl, ⟨trivial, trivial, trivial, trivial, trivial, trivial, trivial, trivial, rfl, trivial⟩⟩, ⟨_, Tryz.underlying27, rfl⟩⟩,
  ⟨Tryz.sizeOf28, Tryz.isAgg28, fun w => ⟨_, Tryz.zeroValue28 w, fun _ => rfl, ⟨trivial, trivial, trivial, trivial, trivial, trivial, trivial, trivial, rfl, trivial⟩⟩, ⟨_, Tryz.underlying28, rfl⟩⟩,
  ⟨Tryz.sizeOf29, Tryz.isAgg29, fun w => ⟨_, Tryz.zeroValue29 w, fun _ => rfl, ⟨rfl, trivial⟩⟩, trivial⟩,
  ⟨Tryz.sizeOf30, Tryz.isAgg30, fun w => ⟨_, Tryz.zeroValue30 w, fun _ => rfl, ⟨rfl, trivial⟩⟩, trivial⟩,
  ⟨Tryz.sizeOf31, Tryz.isAgg31, fun w => ⟨_, Tryz.zeroValue31 w, fun _ => rfl, ⟨trivial, trivial⟩⟩, Tryz.underlying31⟩,
  ⟨Tryz.sizeOf32, Tryz.isAgg32, fun w => ⟨_, Tryz.zeroValue32 w, fun _ => rfl, ⟨rfl, trivial⟩⟩, trivial⟩,
  ⟨Tryz.sizeOf34, Tryz.isAgg34, fun w => ⟨_, Tryz.zeroValue34 w, fun _ => rfl, ⟨rfl, trivial⟩⟩, trivial⟩,
  ⟨Tryz.sizeOf35, Tryz.isAgg35, fun w => ⟨_, Tryz.zeroValue35 w, fun _ => rfl, ⟨rfl, trivial⟩⟩, trivial⟩,
  ⟨Tryz.sizeOf36, Tryz.isAgg36, fun w => ⟨_, Tryz.zeroValue36 w, fun _ => rfl, ⟨rfl, trivial⟩⟩, trivial⟩,
  ⟨Tryz.sizeOf37, Tryz.isAgg37, fun w => ⟨_, Tryz.zeroValue37 w, fun _ => rfl, ⟨rfl, trivial⟩⟩, trivial⟩,
  ⟨Tryz.sizeOf38, Tryz.isAgg38, fun w => ⟨_, Tryz.zeroValue38 w, fun _ => rfl, ⟨rfl, trivial⟩⟩, trivial⟩,
  ⟨Tryz.sizeOf39, Tryz.isAgg39, fun w => ⟨_, Tryz.zeroValue39 w, fun _ => rfl, ⟨rfl, trivial⟩⟩, trivial⟩,
  ⟨Tryz.sizeOf40, Tryz.isAgg40, fun w => ⟨_, Tryz.zeroValue40 w, fun _ => rfl, ⟨rfl, trivial⟩⟩, trivial⟩,
  ⟨Tryz.sizeOf42, Tryz.isAgg42, fun w => ⟨_, Tryz.zeroValue42 w, fun _ => rfl, ⟨rfl, trivial⟩⟩, trivial⟩,
  ⟨Tryz.sizeOf43, Tryz.isAgg43, fun w => ⟨_, Tryz.zeroValue43 w, fun _ => rfl, ⟨rfl, trivial⟩⟩, trivial⟩,
  ⟨Tryz.sizeOf45, Tryz.isAgg45, fun w => ⟨_, Tryz.zeroValue45 w, fun _ => rfl, ⟨rfl, trivial⟩⟩, trivial⟩,
  ⟨Tryz.sizeOf47, Tryz.isAgg47, fun w => ⟨_, Tryz.zeroValue47 w, fun _ => rfl, ⟨rfl, trivial⟩⟩, trivial⟩,
  ⟨Tryz.sizeOf48, Tryz.isAgg48, fun w => ⟨_, Tryz.zeroValue48 w, fun _ => rfl, ⟨rfl, trivial⟩⟩, trivial⟩,
  ⟨Tryz.sizeOf50, Tryz.isAgg50, fun w => ⟨_, Tryz.zeroValue50 w, fun _ => rfl, ⟨rfl, trivial⟩⟩, trivial⟩,
  ⟨Tryz.sizeOf51, Tryz.isAgg51, fun w => ⟨_, Tryz.zeroValue51 w, fun _ => rfl, ⟨rfl, trivial⟩⟩, trivial⟩,
  ⟨Tryz.sizeOf52, Tryz.isAgg52, fun w => ⟨_, Tryz.zeroValue52 w, fun _ => rfl, ⟨rfl, trivial⟩⟩, trivial⟩,
  ⟨Tryz.sizeOf53, Tryz.isAgg53, fun w => ⟨_, Tryz.zeroValue53 w, fun _ => rfl, ⟨rfl, trivial⟩⟩, trivial⟩,
  ⟨Tryz.sizeOf54, Tryz.isAgg54, fun w => ⟨_, Tryz.zeroValue54 w, fun _ => rfl, ⟨rfl, trivial⟩⟩, trivial⟩,
  ⟨Tryz.sizeOf55, Tryz.isAgg55, fun w => ⟨_, Tryz.zeroValue55 w, fun _ => rfl, ⟨rfl, trivial⟩⟩, trivial⟩,
  ⟨Tryz.sizeOf56, Tryz.isAgg56, fun w => ⟨_, Tryz.zeroValue56 w, fun _ => rfl, ⟨rfl, trivial⟩⟩, trivial⟩,
  ⟨Tryz.sizeOf57, Tryz.isAgg57, fun w => ⟨_, Tryz.zeroValue57 w, fun _ => rfl, ⟨rfl, trivial⟩⟩, trivial⟩,
  ⟨Tryz.sizeOf58, Tryz.isAgg58, fun w => ⟨_, Tryz.zeroValue58 w, fun _ => rfl, ⟨rfl, trivial⟩⟩, trivial⟩,
  ⟨Tryz.sizeOf60, Tryz.isAgg60, fun w => ⟨_, Tryz.zeroValue60 w, fun _ => rfl, ⟨rfl, trivial⟩⟩, trivial⟩,
  ⟨Tryz.sizeOf61, Tryz.isAgg61, fun w => ⟨_, Tryz.zeroValue61 w, fun _ => rfl, ⟨rfl, trivial⟩⟩, trivial⟩,
  ⟨Tryz.sizeOf63, Tryz.isAgg63, fun w => ⟨_, Tryz.zeroValue63 w, fun _ => rfl, ⟨rfl, trivial⟩⟩, trivial⟩,
  ⟨Tryz.sizeOf64, Tryz.isAgg64, fun w => ⟨_, Tryz.zeroValue64 w, fun _ => rfl, ⟨rfl, trivial⟩⟩, trivial⟩,
  ⟨Tryz.sizeOf66, Tryz.isAgg66, fun w => ⟨_, Tryz.zeroValue66 w, fun _ => rfl, ⟨rfl, trivial⟩⟩, trivial⟩,
  ⟨Tryz.sizeOf68, Tryz.isAgg68, fun w => ⟨_, Tryz.zeroValue68 w, fun _ => rfl, ⟨rfl, trivial⟩⟩, trivial⟩,
  ⟨Tryz.sizeOf69, Tryz.isAgg69, fun w => ⟨_, Tryz.zeroValue69 w, fun _ => rfl, ⟨rfl, trivial⟩⟩, Tryz.underlying69⟩,
  ⟨Tryz.sizeOf70, Tryz.isAgg70, fun w => ⟨_, Tryz.zeroValue70 w, fun _ => rfl, ⟨rfl, trivial⟩⟩, Tryz.underlying70⟩,
  ⟨Tryz.sizeOf71, Tryz.isAgg71, fun w => ⟨_, Tryz.zeroValue71 w, fun _ => rfl, ⟨trivial, rfl, rfl, trivial⟩⟩, ⟨_, Tryz.underlying71, rfl⟩⟩,
  ⟨Tryz.sizeOf72, Tryz.isAgg72, fun w => ⟨_, Tryz.zeroValue72 w, fun _ => rfl, ⟨trivial, rfl, rfl, trivial⟩⟩, ⟨_, Tryz.underlying72, rfl⟩⟩,
  ⟨Tryz.sizeOf74, Tryz.isAgg74, fun w => ⟨_, Tryz.zeroValue74 w, fun _ => rfl, ⟨rfl, trivial⟩⟩, trivial⟩,
  ⟨Tryz.sizeOf75, Tryz.isAgg75, fun w => ⟨_, Tryz.zeroValue75 w, fun _ => rfl, ⟨rfl, trivial⟩⟩, trivial⟩,
  ⟨Tryz.sizeOf76, Tryz.isAgg76, fun w => ⟨_, Tryz.zeroValue76 w, fun _ => rfl, ⟨rfl, trivial⟩⟩, trivial⟩,
  ⟨Tryz.sizeOf77, Tryz.isAgg77, fun w => ⟨_, Tryz.zeroValue77 w, fun _ => rfl, ⟨rfl, trivial⟩⟩, trivial⟩,
  ⟨Tryz.sizeOf79, Tryz.isAgg79, fun w => ⟨_, Tryz.zeroValue79 w, fun _ => rfl, ⟨rfl, trivial⟩⟩, trivial⟩,
  ⟨Tryz.sizeOf80, Tryz.isAgg80, fun w => ⟨_, Tryz.zeroValue80 w, fun _ => rfl, ⟨rfl, trivial⟩⟩, trivial⟩,
  ⟨Tryz.sizeOf81, Tryz.isAgg81, fun w => ⟨_, Tryz.zeroValue81 w, fun _ => rfl, ⟨trivial, trivial, trivial, trivial, trivial, trivial, trivial, trivial, trivial, trivial⟩⟩, trivial⟩,
  ⟨Tryz.sizeOf82, Tryz.isAgg82, fun w => ⟨_, Tryz.zeroValue82 w, fun _ => rfl, ⟨rfl, trivial⟩⟩, trivial⟩,
  ⟨Tryz.sizeOf83, Tryz.isAgg83, fun w => ⟨_, Tryz.zeroValue83 w, fun _ => rfl, ⟨rfl, rfl, rfl, rfl, rfl, trivial⟩⟩, trivial⟩,
  ⟨Tryz.sizeOf85, Tryz.isAgg85, fun w => ⟨_, Tryz.zeroValue85 w, fun _ => rfl, ⟨rfl, trivial⟩⟩, trivial⟩,
  ⟨Tryz.sizeOf86, Tryz.isAgg86, fun w => ⟨_, Tryz.zeroValue86 w, fun _ => rfl, ⟨rfl, rfl, rfl, rfl, rfl, trivial⟩⟩, trivial⟩,
  ⟨Tryz.sizeOf88, Tryz.isAgg88, fun w => ⟨_, Tryz.zeroValue88 w, fun _ => rfl, ⟨rfl, trivial⟩⟩, trivial⟩,
  ⟨Tryz.sizeOf89, Tryz.isAgg89, fun w => ⟨_, Tryz.zeroValue89 w, fun _ => rfl, ⟨rfl, trivial⟩⟩, trivial⟩,
  ⟨Tryz.sizeOf90, Tryz.isAgg90, fun w => ⟨_, Tryz.zeroValue90 w, fun _ => rfl, ⟨rfl, trivial⟩⟩, trivial⟩,
  ⟨Tryz.sizeOf91, Tryz.isAgg91, fun w => ⟨_, Tryz.zeroValue91 w, fun _ => rfl, ⟨rfl, trivial⟩⟩, trivial⟩,
  ⟨Tryz.sizeOf92, Tryz.isAgg92, fun w => ⟨_, Tryz.zeroValue92 w, fun _ => rfl, ⟨rfl, trivial⟩⟩, trivial⟩,
  ⟨Tryz.sizeOf93, Tryz.isAgg93, fun w => ⟨_, Tryz.zeroValue93 w, fun _ => rfl, ⟨rfl, trivial⟩⟩, trivial⟩,
  ⟨Tryz.sizeOf94, Tryz.isAgg94, fun w => ⟨_, Tryz.zeroValue94 w, fun _ => rfl, ⟨rfl, trivial⟩⟩, trivial⟩,
  ⟨Tryz.sizeOf95, Tryz.isAgg95, fun w => ⟨_, Tryz.zeroValue95 w, fun _ => rfl, ⟨trivial, trivial, trivial, trivial, trivial, trivial, trivial, trivial, trivial, trivial, trivial, trivial, trivial⟩⟩, trivial⟩,
  ⟨Tryz.sizeOf96, Tryz.isAgg96, fun w => ⟨_, Tryz.zeroValue96 w, fun _ => rfl, ⟨rfl, trivial⟩⟩, trivial⟩,
  ⟨Tryz.sizeOf97, Tryz.isAgg97, fun w => ⟨_, Tryz.zeroValue97 w, fun _ => rfl, ⟨rfl, trivial⟩⟩, trivial⟩,
  ⟨Tryz.sizeOf98, Tryz.isAgg98, fun w => ⟨_, Tryz.zeroValue98 w, fun _ => rfl, ⟨rfl, trivial⟩⟩, trivial⟩,
  ⟨Tryz.sizeOf99, Tryz.isAgg99, fun w => ⟨_, Tryz.zeroValue99 w, fun _ => rfl, ⟨rfl, trivial⟩⟩, trivial⟩,
  ⟨Tryz.sizeOf100, Tryz.isAgg100, fun w => ⟨_, Tryz.zeroValue100 w, fun _ => rfl, ⟨rfl, trivial⟩⟩, trivial⟩,
  ⟨Tryz.sizeOf101, Tryz.isAgg101, fun w => ⟨_, Tryz.zeroValue101 w, fun _ => rfl, ⟨rfl, trivial⟩⟩, trivial⟩,
  ⟨Tryz.sizeOf102, Tryz.isAgg102, fun w => ⟨_, Tryz.zeroValue102 w, fun _ => rfl, ⟨rfl, trivial⟩⟩, trivial⟩,
  ⟨Tryz.sizeOf103, Tryz.isAgg103, fun w => ⟨_, Tryz.zeroValue103 w, fun _ => rfl, ⟨rfl, trivial⟩⟩, trivial⟩,
  ⟨Tryz.sizeOf104, Tryz.isAgg104, fun w => ⟨_, Tryz.zeroValue104 w, fun _ => rfl, ⟨rfl, trivial⟩⟩, trivial⟩,
  ⟨Tryz.sizeOf105, Tryz.isAgg105, fun w => ⟨_, Tryz.zeroValue105 w, fun _ => rfl, ⟨rfl, trivial⟩⟩, trivial⟩,
  ⟨Tryz.sizeOf106, Tryz.isAgg106, fun w => ⟨_, Tryz.zeroValue106 w, fun _ => rfl, ⟨rfl, trivial⟩⟩, trivial⟩,
  ⟨Tryz.sizeOf107, Tryz.isAgg107, fun w => ⟨_, Tryz.zeroValue107 w, fun _ => rfl, ⟨rfl, trivial⟩⟩, trivial⟩,
  ⟨Tryz.sizeOf108, Tryz.isAgg108, fun w => ⟨_, Tryz.zeroValue108 w, fun _ => rfl, ⟨rfl, trivial⟩⟩, trivial⟩,
  ⟨Tryz.sizeOf110, Tryz.isAgg110, fun w => ⟨_, Tryz.zeroValue110 w, fun _ => rfl, ⟨rfl, trivial⟩⟩, trivial⟩,
  ⟨Tryz.sizeOf112, Tryz.isAgg112, fun w => ⟨_, Tryz.zeroValue112 w, fun _ => rfl, ⟨rfl, trivial⟩⟩, trivial⟩,
  ⟨Tryz.sizeOf113, Tryz.isAgg113, fun w => ⟨_, Tryz.zeroValue113 w, fun _ => rfl, ⟨rfl, trivial⟩⟩, Tryz.underlying113⟩,
  ⟨Tryz.sizeOf115, Tryz.isAgg115, fun w => ⟨_, Tryz.zeroValue115 w, fun _ => rfl, ⟨rfl, trivial⟩⟩, trivial⟩,
  ⟨Tryz.sizeOf116, Tryz.isAgg116, fun w => ⟨_, Tryz.zeroValue116 w, fun _ => rfl, ⟨rfl, trivial⟩⟩, trivial⟩,
  ⟨Tryz.sizeOf117, Tryz.isAgg117, fun w => ⟨_, Tryz.zeroValue117 w, fun _ => rfl, ⟨rfl, trivial⟩⟩, trivial⟩,
  ⟨Tryz.sizeOf119, Tryz.isAgg119, fun w => ⟨_, Tryz.zeroValue119 w, fun _ => rfl, ⟨rfl, trivial⟩⟩, trivial⟩,
  ⟨Tryz.sizeOf120, Tryz.isAgg120, fun w => ⟨_, Tryz.zeroValue120 w, fun _ => rfl, ⟨rfl, trivial⟩⟩, trivial⟩,
  ⟨Tryz.sizeOf121, Tryz.isAgg121, fun w => ⟨_, Tryz.zeroValue121 w, fun _ => rfl, ⟨rfl, trivial⟩⟩, Tryz.underlying121⟩,
  ⟨Tryz.sizeOf122, Tryz.isAgg122, fun w => ⟨_, Tryz.zeroValue122 w, fun _ => rfl, ⟨rfl, trivial⟩⟩, trivial⟩,
  ⟨Tryz.sizeOf123, Tryz.isAgg123, fun w => ⟨_, Tryz.zeroValue123 w, fun _ => rfl, ⟨rfl, trivial⟩⟩, trivial⟩,
  ⟨Tryz.sizeOf125, Tryz.isAgg125, fun w => ⟨_, Tryz.zeroValue125 w, fun _ => rfl, ⟨rfl, trivial⟩⟩, trivial⟩,
  ⟨Tryz.sizeOf126, Tryz.isAgg126, fun w => ⟨_, Tryz.zeroValue126 w, fun _ => rfl, ⟨rfl, trivial⟩⟩, trivial⟩,
  ⟨Tryz.sizeOf127, Tryz.isAgg127, fun w => ⟨_, Tryz.zeroValue127 w, fun _ => rfl, ⟨rfl, trivial⟩⟩, trivial⟩,
  ⟨Tryz.sizeOf128, Tryz.isAgg128, fun w => ⟨_, Tryz.zeroValue128 w, fun _ => rfl, ⟨rfl, trivial⟩⟩, trivial⟩,
  ⟨Tryz.sizeOf130, Tryz.isAgg130, fun w => ⟨_, Tryz.zeroValue130 w, fun _ => rfl, ⟨rfl, trivial⟩⟩, trivial⟩,
  ⟨Tryz.sizeOf131, Tryz.isAgg131, fun w => ⟨_, Tryz.zeroValue131 w, fun _ => rfl, ⟨trivial, trivial, trivial, trivial⟩⟩, trivial⟩,
  ⟨Tryz.sizeOf132, Tryz.isAgg132, fun w => ⟨_, Tryz.zeroValue132 w, fun _ => rfl, ⟨rfl, trivial⟩⟩, trivial⟩,
  ⟨Tryz.sizeOf133, Tryz.isAgg133, fun w => ⟨_, Tryz.zeroValue133 w, fun _ => rfl, ⟨rfl, trivial⟩⟩, trivial⟩,
  ⟨Tryz.sizeOf134, Tryz.isAgg134, fun w => ⟨_, Tryz.zeroValue134 w, fun _ => rfl, ⟨rfl, trivial⟩⟩, trivial⟩,
  ⟨Tryz.sizeOf135, Tryz.isAgg135, fun w => ⟨_, Tryz.zeroValue135 w, fun _ => rfl, ⟨rfl, trivial⟩⟩, trivial⟩,
  ⟨Tryz.sizeOf136, Tryz.isAgg136, fun w => ⟨_, Tryz.zeroValue136 w, fun _ => rfl, ⟨rfl, trivial⟩⟩, Tryz.underlying136⟩,
  ⟨Tryz.sizeOf137, Tryz.isAgg137, fun w => ⟨_, Tryz.zeroValue137 w, fun _ => rfl, ⟨rfl, trivial⟩⟩, Tryz.underlying137⟩,
  ⟨Tryz.sizeOf138, Tryz.isAgg138, fun w => ⟨_, Tryz.zeroValue138 w, fun _ => rfl, ⟨trivial, rfl, rfl, trivial⟩⟩, ⟨_, Tryz.underlying138, rfl⟩⟩,
  ⟨Tryz.sizeOf139, Tryz.isAgg139, fun w => ⟨_, Tryz.zeroValue139 w, fun _ => rfl, ⟨trivial, rfl, rfl, trivial⟩⟩, ⟨_, Tryz.underlying139, rfl⟩⟩,
  ⟨Tryz.sizeOf141, Tryz.isAgg141, fun w => ⟨_, Tryz.zeroValue141 w, fun _ => rfl, ⟨rfl, trivial⟩⟩, trivial⟩,
  ⟨Tryz.sizeOf142, Tryz.isAgg142, fun w => ⟨_, Tryz.zeroValue142 w, fun _ => rfl, ⟨rfl, trivial⟩⟩, trivial⟩,
  ⟨Tryz.sizeOf143, Tryz.isAgg143, fun w => ⟨_, Tryz.zeroValue143 w, fun _ => rfl, ⟨rfl, trivial⟩⟩, trivial⟩,
  ⟨Tryz.sizeOf144, Tryz.isAgg144, fun w => ⟨_, Tryz.zeroValue144 w, fun _ => rfl, ⟨rfl, trivial⟩⟩, trivial⟩,
  ⟨Tryz.sizeOf148, Tryz.isAgg148, fun w => ⟨_, Tryz.zeroValue148 w, fun _ => rfl, ⟨rfl, trivial⟩⟩, trivial⟩,
  ⟨Tryz.sizeOf149, Tryz.isAgg149, fun w => ⟨_, Tryz.zeroValue149 w, fun _ => rfl, ⟨rfl, trivial⟩⟩, trivial⟩,
  ⟨Tryz.sizeOf150, Tryz.isAgg150, fun w => ⟨_, Tryz.zeroValue150 w, fun _ => rfl, ⟨rfl, trivial⟩⟩, trivial⟩,
  ⟨Tryz.sizeOf152, Tryz.isAgg152, fun w => ⟨_, Tryz.zeroValue152 w, fun _ => rfl, ⟨rfl, trivial⟩⟩, trivial⟩,
  ⟨Tryz.sizeOf153, Tryz.isAgg153, fun w => ⟨_, Tryz.zeroValue153 w, fun _ => rfl, ⟨rfl, trivial⟩⟩, trivial⟩,
  ⟨Tryz.sizeOf154, Tryz.isAgg154, fun w => ⟨_, Tryz.zeroValue154 w, fun _ => rfl, ⟨rfl, trivial⟩⟩, trivial⟩,
  ⟨Tryz.sizeOf155, Tryz.isAgg155, fun w => ⟨_, Tryz.zeroValue155 w, fun _ => rfl, ⟨rfl, trivial⟩⟩, trivial⟩,
  ⟨Tryz.sizeOf156, Tryz.isAgg156, fun w => ⟨_, Tryz.zeroValue156 w, fun _ => rfl, ⟨rfl, trivial⟩⟩, trivial⟩,
  ⟨Tryz.sizeOf158, Tryz.isAgg158, fun w => ⟨_, Tryz.zeroValue158 w, fun _ => rfl, ⟨rfl, trivial⟩⟩, trivial⟩,
  ⟨Tryz.sizeOf159, Tryz.isAgg159, fun w => ⟨_, Tryz.zeroValue159 w, fun _ => rfl, ⟨rfl, trivial⟩⟩, trivial⟩,
  ⟨Tryz.sizeOf160, Tryz.isAgg160, fun w => ⟨_, Tryz.zeroValue160 w, fun _ => rfl, ⟨rfl, trivial⟩⟩, trivial⟩,
  ⟨Tryz.sizeOf161, Tryz.isAgg161, fun w => ⟨_, Tryz.zeroValue161 w, fun _ => rfl, ⟨trivial, trivial⟩⟩, Tryz.underlying161⟩,
  ⟨Tryz.sizeOf162, Tryz.isAgg162, fun w => ⟨_, Tryz.zeroValue162 w, fun _ => rfl, ⟨rfl, trivial⟩⟩, trivial⟩,
  ⟨Tryz.sizeOf163, Tryz.isAgg163, fun w => ⟨_, Tryz.zeroValue163 w, fun _ => rfl, ⟨rfl, trivial⟩⟩, trivial⟩,
  ⟨Tryz.sizeOf164, Tryz.isAgg164, fun w => ⟨_, Tryz.zeroValue164 w, fun _ => rfl, ⟨rfl, trivial⟩⟩, trivial⟩,
  ⟨Tryz.sizeOf165, Tryz.isAgg165, fun w => ⟨_, Tryz.zeroValue165 w, fun _ => rfl, ⟨rfl, trivial⟩⟩, trivial⟩,
  ⟨Tryz.sizeOf166, Tryz.isAgg166, fun w => ⟨_, Tryz.zeroValue166 w, fun _ => rfl, ⟨rfl, trivial⟩⟩, trivial⟩,
  ⟨Tryz.sizeOf167, Tryz.isAgg167, fun w => ⟨_, Tryz.zeroValue167 w, fun _ => rfl, ⟨rfl, trivial⟩⟩, trivial⟩,
  ⟨Tryz.sizeOf168, Tryz.isAgg168, fun w => ⟨_, Tryz.zeroValue168 w, fun _ => rfl, ⟨rfl, trivial⟩⟩, trivial⟩,
  ⟨Tryz.sizeOf169, Tryz.isAgg169, fun w => ⟨_, Tryz.zeroValue169 w, fun _ => rfl, ⟨rfl, trivial⟩⟩, trivial⟩,
  ⟨Tryz.sizeOf171, Tryz.isAgg171, fun w => ⟨_, Tryz.zeroValue171 w, fun _ => rfl, ⟨rfl, trivial⟩⟩, trivial⟩,
  ⟨Tryz.sizeOf172, Tryz.isAgg172, fun w => ⟨_, Tryz.zeroValue172 w, fun _ => rfl, ⟨trivial, trivial⟩⟩, Tryz.underlying172⟩,
  ⟨Tryz.sizeOf173, Tryz.isAgg173, fun w => ⟨_, Tryz.zeroValue173 w, fun _ => rfl, ⟨rfl, trivial⟩⟩, trivial⟩,
  ⟨Tryz.sizeOf174, Tryz.isAgg174, fun w => ⟨_, Tryz.zeroValue174 w, fun _ => rfl, ⟨rfl, trivial⟩⟩, trivial⟩,
  ⟨Tryz.sizeOf175, Tryz.isAgg175, fun w => ⟨_, Tryz.zeroValue175 w, fun _ => rfl, ⟨rfl, trivial⟩⟩, trivial⟩,
  ⟨Tryz.sizeOf176, Tryz.isAgg176, fun w => ⟨_, Tryz.zeroValue176 w, fun _ => rfl, ⟨rfl, trivial⟩⟩, trivial⟩,
  ⟨Tryz.sizeOf177, Tryz.isAgg177, fun w => ⟨_, Tryz.zeroValue177 w, fun _ => rfl, ⟨rfl, trivial⟩⟩, trivial⟩,
  ⟨Tryz.sizeOf179, Tryz.isAgg179, fun w => ⟨_, Tryz.zeroValue179 w, fun _ => rfl, ⟨rfl, trivial⟩⟩, trivial⟩,
  ⟨Tryz.sizeOf181, Tryz.isAgg181, fun w => ⟨_, Tryz.zeroValue181 w, fun _ => rfl, ⟨rfl, trivial⟩⟩, trivial⟩,
  ⟨Tryz.sizeOf182, Tryz.isAgg182, fun w => ⟨_, Tryz.zeroValue182 w, fun _ => rfl, ⟨rfl, trivial⟩⟩, trivial⟩,
  ⟨Tryz.sizeOf184, Tryz.isAgg184, fun w => ⟨_, Tryz.zeroValue184 w, fun _ => rfl, ⟨trivial, trivial, trivial⟩⟩, ⟨_, Tryz.underlying184, rfl⟩⟩,
  ⟨Tryz.sizeOf185, Tryz.isAgg185, fun w => ⟨_, Tryz.zeroValue185 w, fun _ => rfl, ⟨trivial, trivial, trivial⟩⟩, ⟨_, Tryz.underlying185, rfl⟩⟩,
  ⟨Tryz.sizeOf187, Tryz.isAgg187, fun w => ⟨_, Tryz.zeroValue187 w, fun _ => rfl, ⟨rfl, trivial⟩⟩, trivial⟩,
  ⟨Tryz.sizeOf188, Tryz.isAgg188, fun w => ⟨_, Tryz.zeroValue188 w, fun _ => rfl, ⟨rfl, trivial⟩⟩, trivial⟩,
  ⟨Tryz.sizeOf189, Tryz.isAgg189, fun w => ⟨_, Tryz.zeroValue189 w, fun _ => rfl, ⟨trivial, trivial⟩⟩, Tryz.underlying189⟩,
  ⟨Tryz.sizeOf191, Tryz.isAgg191, fun w => ⟨_, Tryz.zeroValue191 w, fun _ => rfl, ⟨rfl, trivial⟩⟩, trivial⟩,
  ⟨Tryz.sizeOf192, Tryz.isAgg192, fun w => ⟨_, Tryz.zeroValue192 w, fun _ => rfl, ⟨rfl, trivial⟩⟩, trivial⟩,
  ⟨Tryz.sizeOf193, Tryz.isAgg193, fun w => ⟨_, Tryz.zeroValue193 w, fun _ => rfl, ⟨rfl, trivial⟩⟩, trivial⟩,
  ⟨Tryz.sizeOf194, Tryz.isAgg194, fun w => ⟨_, Tryz.zeroValue194 w, fun _ => rfl, ⟨rfl, trivial⟩⟩, trivial⟩,
  ⟨Tryz.sizeOf195, Tryz.isAgg195, fun w => ⟨_, Tryz.zeroValue195 w, fun _ => rfl, ⟨rfl, trivial⟩⟩, trivial⟩,
  ⟨Tryz.sizeOf196, Tryz.isAgg196, fun w => ⟨_, Tryz.zeroValue196 w, fun _ => rfl, ⟨rfl, trivial⟩⟩, trivial⟩,
  ⟨Tryz.sizeOf197, Tryz.isAgg197, fun w => ⟨_, Tryz.zeroValue197 w, fun _ => rfl, ⟨rfl, trivial⟩⟩, trivial⟩,
  ⟨Tryz.sizeOf198, Tryz.isAgg198, fun w => ⟨_, Tryz.zeroValue198 w, fun _ => rfl, ⟨rfl, trivial⟩⟩, trivial⟩,
  ⟨Tryz.sizeOf199, Tryz.isAgg199, fun w => ⟨_, Tryz.zeroValue199 w, fun _ => rfl, ⟨rfl, trivial⟩⟩, trivial⟩,
  ⟨Tryz.sizeOf201, Tryz.isAgg201, fun w => ⟨_, Tryz.zeroValue201 w, fun _ => rfl, ⟨rfl, trivial⟩⟩, trivial⟩,
  ⟨Tryz.sizeOf202, Tryz.isAgg202, fun w => ⟨_, Tryz.zeroValue202 w, fun _ => rfl, ⟨rfl, trivial⟩⟩, trivial⟩,
  ⟨Tryz.sizeOf203, Tryz.isAgg203, fun w => ⟨_, Tryz.zeroValue203 w, fun _ => rfl, ⟨rfl, rfl, trivial⟩⟩, ⟨_, Tryz.underlying203, rfl⟩⟩,
  ⟨Tryz.sizeOf204, Tryz.isAgg204, fun w => ⟨_, Tryz.zeroValue204 w, fun _ => rfl, ⟨rfl, rfl, trivial⟩⟩, ⟨_, Tryz.underlying204, rfl⟩⟩,
  ⟨Tryz.sizeOf205, Tryz.isAgg205, fun w => ⟨_, Tryz.zeroValue205 w, fun _ => rfl, ⟨rfl, trivial⟩⟩, trivial⟩,
  ⟨Tryz.sizeOf206, Tryz.isAgg206, fun w => ⟨_, Tryz.zeroValue206 w, fun _ => rfl, ⟨rfl, trivial⟩⟩, trivial⟩,
  ⟨Tryz.sizeOf207, Tryz.isAgg207, fun w => ⟨_, Tryz.zeroValue207 w, fun _ => rfl, ⟨rfl, trivial⟩⟩, trivial⟩,
  ⟨Tryz.sizeOf208, Tryz.isAgg208, fun w => ⟨_, Tryz.zeroValue208 w, fun _ => rfl, ⟨rfl, trivial⟩⟩, trivial⟩,
  ⟨Tryz.sizeOf209, Tryz.isAgg209, fun w => ⟨_, Tryz.zeroValue209 w, fun _ => rfl, ⟨rfl, trivial⟩⟩, trivial⟩,
  ⟨Tryz.sizeOf210, Tryz.isAgg210, fun w => ⟨_, Tryz.zeroValue210 w, fun _ => rfl, ⟨rfl, trivial⟩⟩, trivial⟩,
  ⟨Tryz.sizeOf211, Tryz.isAgg211, fun w => ⟨_, Tryz.zeroValue211 w, fun _ => rfl, ⟨trivial, trivial⟩⟩, Tryz.underlying211⟩,
  ⟨Tryz.sizeOf213, Tryz.isAgg213, fun w => ⟨_, Tryz.zeroValue213 w, fun _ => rfl, ⟨rfl, trivial⟩⟩, trivial⟩,
  ⟨Tryz.sizeOf214, Tryz.isAgg214, fun w => ⟨_, Tryz.zeroValue214 w, fun _ => rfl, ⟨rfl, trivial⟩⟩, trivial⟩,
  ⟨Tryz.sizeOf215, Tryz.isAgg215, fun w => ⟨_, Tryz.zeroValue215 w, fun _ => rfl, ⟨rfl, trivial⟩⟩, trivial⟩,
  ⟨Tryz.sizeOf216, Tryz.isAgg216, fun w => ⟨_, Tryz.zeroValue216 w, fun _ => rfl, ⟨rfl, trivial⟩⟩, trivial⟩,
  ⟨Tryz.sizeOf218, Tryz.isAgg218, fun w => ⟨_, Tryz.zeroValue218 w, fun _ => rfl, ⟨rfl, trivial⟩⟩, trivial⟩,
  ⟨Tryz.sizeOf219, Tryz.isAgg219, fun w => ⟨_, Tryz.zeroValue219 w, fun _ => rfl, ⟨rfl, trivial⟩⟩, trivial⟩,
  ⟨Tryz.sizeOf221, Tryz.isAgg221, fun w => ⟨_, Tryz.zeroValue221 w, fun _ => rfl, ⟨rfl, trivial⟩⟩, trivial⟩,
  ⟨Tryz.sizeOf222, Tryz.isAgg222, fun w => ⟨_, Tryz.zeroValue222 w, fun _ => rfl, ⟨rfl, trivial⟩⟩, trivial⟩,
  ⟨Tryz.sizeOf224, Tryz.isAgg224, fun w => ⟨_, Tryz.zeroValue224 w, fun _ => rfl, ⟨rfl, trivial⟩⟩, trivial⟩,
  ⟨Tryz.sizeOf226, Tryz.isAgg226, fun w => ⟨_, Tryz.zeroValue226 w, fun _ => rfl, ⟨rfl, trivial⟩⟩, trivial⟩,
  ⟨Tryz.sizeOf227, Tryz.isAgg227, fun w => ⟨_, Tryz.zeroValue227 w, fun _ => rfl, ⟨rfl, trivial⟩⟩, trivial⟩,
  ⟨Tryz.sizeOf228, Tryz.isAgg228, fun w => ⟨_, Tryz.zeroValue228 w, fun _ => rfl, ⟨rfl, trivial⟩⟩, trivial⟩,
  ⟨Tryz.sizeOf229, Tryz.isAgg229, fun w => ⟨_, Tryz.zeroValue229 w, fun _ => rfl, ⟨rfl, trivial⟩⟩, trivial⟩,
  ⟨Tryz.sizeOf231, Tryz.isAgg231, fun w => ⟨_, Tryz.zeroValue231 w, fun _ => rfl, ⟨rfl, trivial⟩⟩, trivial⟩,
  ⟨Tryz.sizeOf232, Tryz.isAgg232, fun w => ⟨_, Tryz.zeroValue232 w, fun _ => rfl, ⟨trivial, trivial, rfl, trivial⟩⟩, ⟨_, Tryz.underlying232, rfl⟩⟩,
  ⟨Tryz.sizeOf233, Tryz.isAgg233, fun w => ⟨_, Tryz.zeroValue233 w, fun _ => rfl, ⟨trivial, trivial, rfl, trivial⟩⟩, ⟨_, Tryz.underlying233, rfl⟩⟩,
  ⟨Tryz.sizeOf234, Tryz.isAgg234, fun w => ⟨_, Tryz.zeroValue234 w, fun _ => rfl, ⟨rfl, trivial⟩⟩, trivial⟩,
  ⟨Tryz.sizeOf237, Tryz.isAgg237, fun w => ⟨_, Tryz.zeroValue237 w, fun _ => rfl, ⟨rfl, trivial⟩⟩, trivial⟩,
  ⟨Tryz.sizeOf238, Tryz.isAgg238, fun w => ⟨_, Tryz.zeroValue238 w, fun _ => rfl, ⟨rfl, trivial⟩⟩, trivial⟩,
  ⟨Tryz.sizeOf239, Tryz.isAgg239, fun w => ⟨_, Tryz.zeroValue239 w, fun _ => rfl, ⟨rfl, trivial⟩⟩, trivial⟩,
  ⟨Tryz.sizeOf240, Tryz.isAgg240, fun w => ⟨_, Tryz.zeroValue240 w, fun _ => rfl, ⟨rfl, trivial⟩⟩, trivial⟩,
  ⟨Tryz.sizeOf241, Tryz.isAgg241, fun w => ⟨_, Tryz.zeroValue241 w, fun _ => rfl, ⟨rfl, trivial⟩⟩, trivial⟩,
  ⟨Tryz.sizeOf242, Tryz.isAgg242, fun w => ⟨_, Tryz.zeroValue242 w, fun _ => rfl, ⟨rfl, trivial⟩⟩, trivial⟩,
  ⟨Tryz.sizeOf243, Tryz.isAgg243, fun w => ⟨_, Tryz.zeroValue243 w, fun _ => rfl, ⟨trivial, trivial⟩⟩, ⟨_, Tryz.underlying243, rfl⟩⟩,
  ⟨Tryz.sizeOf244, Tryz.isAgg244, fun w => ⟨_, Tryz.zeroValue244 w, fun _ => rfl, ⟨trivial, trivial⟩⟩, ⟨_, Tryz.underlying244, rfl⟩⟩,
  ⟨Tryz.sizeOf245, Tryz.isAgg245, fun w => ⟨_, Tryz.zeroValue245 w, fun _ => rfl, ⟨rfl, trivial⟩⟩, trivial⟩,
  ⟨Tryz.sizeOf248, Tryz.isAgg248, fun w => ⟨_, Tryz.zeroValue248 w, fun _ => rfl, ⟨rfl, rfl, rfl, trivial, trivial⟩⟩, ⟨_, Tryz.underlying248, rfl⟩⟩,
  ⟨Tryz.sizeOf249, Tryz.isAgg249, fun w => ⟨_, Tryz.zeroValue249 w, fun _ => rfl, ⟨rfl, rfl, rfl, trivial, trivial⟩⟩, ⟨_, Tryz.underlying249, rfl⟩⟩,
  ⟨Tryz.sizeOf250, Tryz.isAgg250, fun w => ⟨_, Tryz.zeroValue250 w, fun _ => rfl, trivial⟩, trivial⟩,
  ⟨Tryz.sizeOf251, Tryz.isAgg251, fun w => ⟨_, Tryz.zeroValue251 w, fun _ => rfl, trivial⟩, ⟨_, Tryz.underlying251, rfl⟩⟩,
  ⟨Tryz.sizeOf252, Tryz.isAgg252, fun w => ⟨_, Tryz.zeroValue252 w, fun _ => rfl, trivial⟩, ⟨_, Tryz.underlying252, rfl⟩⟩,
  ⟨Tryz.sizeOf253, Tryz.isAgg253, fun w => ⟨_, Tryz.zeroValue253 w, fun _ => rfl, ⟨trivial, trivial⟩⟩, Tryz.underlying253⟩,
  ⟨Tryz.sizeOf254, Tryz.isAgg254, fun w => ⟨_, Tryz.zeroValue254 w, fun _ => rfl, ⟨trivial, trivial⟩⟩, Tryz.underlying254⟩,
  ⟨Tryz.sizeOf255, Tryz.isAgg255, fun w => ⟨_, Tryz.zeroValue255 w, fun _ => rfl, ⟨rfl, trivial⟩⟩, trivial⟩,
  ⟨Tryz.sizeOf256, Tryz.isAgg256, fun w => ⟨_, Tryz.zeroValue256 w, fun _ => rfl, ⟨trivial, trivial⟩⟩, Tryz.underlying256⟩,
  ⟨Tryz.sizeOf257, Tryz.isAgg257, fun w => ⟨_, Tryz.zeroValue257 w, fun _ => rfl, ⟨trivial, trivial⟩⟩, Tryz.underlying257⟩,
  ⟨Tryz.sizeOf258, Tryz.isAgg258, fun w => ⟨_, Tryz.zeroValue258 w, fun _ => rfl, ⟨trivial, trivial, trivial, trivial, trivial, trivial, trivial, rfl, rfl, trivial, trivial, trivial⟩⟩, ⟨_, Tryz.underlying258, rfl⟩⟩,
  ⟨Tryz.sizeOf259, Tryz.isAgg259, fun w => ⟨_, Tryz.zeroValue259 w, fun _ => rfl, ⟨trivial, trivial, trivial, trivial, trivial, trivial, trivial, rfl, rfl, trivial, trivial, trivial⟩⟩, ⟨_, Tryz.underlying259, rfl⟩⟩, (show Tryz.prog.follows .mixedOrders = true by kernel_rfl)⟩
end Sym
end Go.Proofs.YtdkhkfdenlabaaaGreatDoor
