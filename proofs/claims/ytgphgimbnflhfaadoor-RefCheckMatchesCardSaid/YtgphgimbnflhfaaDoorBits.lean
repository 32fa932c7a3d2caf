/- Bits of int. -/
import Derived.Laws.BitsLemmas
import Derived.Laws.BitsAllLaws
set_option linter.unusedSimpArgs false
set_option linter.unusedVariables false
namespace Go.Proofs.YtgphgimbnflhfaaDoor.Bi
open Go
theorem ofInt_i64 (a : Nat) (ha : a < 9223372036854775808) : (BitVec.ofInt 64 (a : Int)).toNat = a := by
  rw [BitVec.ofInt_natCast, BitVec.toNat_ofNat]; exact Nat.mod_eq_of_lt (by omega)
theorem i64_and_nat (a b : Nat) (ha : a < 9223372036854775808) (hb : b < 9223372036854775808) : bits .and .i64 (a : Int) (b : Int) = ((a &&& b : Nat) : Int) := by
  have hx : a &&& b < 2 ^ 63 := Nat.and_lt_two_pow _ (by omega)
  show IntKind.i64.wrap ((BitVec.ofInt 64 (a : Int) &&& BitVec.ofInt 64 (b : Int)).toNat : Int) = _
  rw [BitVec.toNat_and, ofInt_i64 a ha, ofInt_i64 b hb, IntKind.wrap_i64]
  omega
theorem i64_or_nat (a b : Nat) (ha : a < 9223372036854775808) (hb : b < 9223372036854775808) : bits .or .i64 (a : Int) (b : Int) = ((a ||| b : Nat) : Int) := by
  have hx : a ||| b < 2 ^ 63 := Nat.or_lt_two_pow (by omega) (by omega)
  show IntKind.i64.wrap ((BitVec.ofInt 64 (a : Int) ||| BitVec.ofInt 64 (b : Int)).toNat : Int) = _
  rw [BitVec.toNat_or, ofInt_i64 a ha, ofInt_i64 b hb, IntKind.wrap_i64]
  omega
theorem i64_xor_nat (a b : Nat) (ha : a < 9223372036854775808) (hb : b < 9223372036854775808) : bits .xor .i64 (a : Int) (b : Int) = ((a ^^^ b : Nat) : Int) := by
  have hx : a ^^^ b < 2 ^ 63 := Nat.xor_lt_two_pow (by omega) (by omega)
  show IntKind.i64.wrap ((BitVec.ofInt 64 (a : Int) ^^^ BitVec.ofInt 64 (b : Int)).toNat : Int) = _
  rw [BitVec.toNat_xor, ofInt_i64 a ha, ofInt_i64 b hb, IntKind.wrap_i64]
  omega
theorem shr_and1 (b k : Nat) (hb : b < 9223372036854775808) : bits .and .i64 ((b : Int) / 2 ^ k) 1 = ((b / 2 ^ k % 2 : Nat) : Int) := by
  have e : ((b : Int) / 2 ^ k) = ((b / 2 ^ k : Nat) : Int) := by simp
  have h : b / 2 ^ k ≤ b := Nat.div_le_self _ _
  rw [e, show (1 : Int) = ((1 : Nat) : Int) from rfl, i64_and_nat _ _ (by omega) (by omega), Nat.and_one_is_mod]
theorem or_join (a b i : Nat) (ha : a < 9223372036854775808) (hb : b < 9223372036854775808) (hx : a % 2 ^ i = 0) (hy : b < 2 ^ i) : bits .or .i64 (a : Int) (b : Int) = ((a + b : Nat) : Int) := by
  rw [i64_or_nat a b ha hb, nat_join i a b hx hy]
theorem or4a (b0 b1 : Nat) (h0 : b0 < 256) (h1 : b1 < 256) : bits .or .i64 ((b0 : Int) * 16777216) ((b1 : Int) * 65536) = ((b0 * 16777216 + b1 * 65536 : Nat) : Int) := by
  have e1 := or_join (b0 * 16777216) (b1 * 65536) 24 (by omega) (by omega) (by rw [show (2 : Nat) ^ 24 = 16777216 from rfl]; omega) (by rw [show (2 : Nat) ^ 24 = 16777216 from rfl]; omega)
  rwa [show ((b0 * 16777216 : Nat) : Int) = (b0 : Int) * 16777216 from rfl, show ((b1 * 65536 : Nat) : Int) = (b1 : Int) * 65536 from rfl] at e1
theorem or4b (a b2 : Nat) (h0 : a < 4294967296) (ha : a % 65536 = 0) (h1 : b2 < 256) : bits .or .i64 (a : Int) ((b2 : Int) * 256) = ((a + b2 * 256 : Nat) : Int) := by
  have e1 := or_join a (b2 * 256) 16 (by omega) (by omega) (by rw [show (2 : Nat) ^ 16 = 65536 from rfl]; omega) (by rw [show (2 : Nat) ^ 16 = 65536 from rfl]; omega)
  rwa [show ((b2 * 256 : Nat) : Int) = (b2 : Int) * 256 from rfl] at e1
theorem or4c (a b3 : Nat) (h0 : a < 4294967296) (ha : a % 256 = 0) (h1 : b3 < 256) : bits .or .i64 (a : Int) (b3 : Int) = ((a + b3 : Nat) : Int) :=
  or_join a b3 8 (by omega) (by omega) (by rw [show (2 : Nat) ^ 8 = 256 from rfl]; omega) (by rw [show (2 : Nat) ^ 8 = 256 from rfl]; omega)
theorem or4 (b0 b1 b2 b3 : Nat) (h0 : b0 < 256) (h1 : b1 < 256) (h2 : b2 < 256) (h3 : b3 < 256) :
    bits .or .i64 (bits .or .i64 (bits .or .i64 ((b0 : Int) * 16777216) ((b1 : Int) * 65536)) ((b2 : Int) * 256)) (b3 : Int) = ((b0 * 16777216 + b1 * 65536 + b2 * 256 + b3 : Nat) : Int) := by
  rw [or4a b0 b1 h0 h1, or4b _ b2 (by omega) (by omega) h2, or4c _ b3 (by omega) (by omega) h3]
theorem and15 (a k : Nat) (h : a < 9223372036854775808) : bits .and .i64 ((a : Int) / 2 ^ k) 15 = ((a / 2 ^ k % 16 : Nat) : Int) := by
  have e : ((a : Int) / 2 ^ k) = ((a / 2 ^ k : Nat) : Int) := by simp
  have h2 : a / 2 ^ k ≤ a := Nat.div_le_self _ _
  rw [e, show (15 : Int) = ((15 : Nat) : Int) from rfl, i64_and_nat _ _ (by omega) (by omega), show 15 = 2 ^ 4 - 1 from rfl, Nat.and_two_pow_sub_one_eq_mod]
theorem ret_int {k : IntKind} {a b : Int} (h : a = b) : Ending.returned (.int k a) = .returned (.int k b) := by rw [h]
end Go.Proofs.YtgphgimbnflhfaaDoor.Bi
