/- The register of 32 bits and the table's sum are one. -/
import Derived.Test.YtefklhjjhcobmaaSumPlain
import Derived.Laws.BitsLemmas
namespace Go.Proofs.Ytefklhjjhcobmaa.CrcP

def bit (c j : Nat) : Nat := c / 2 ^ j % 2
theorem bit_lt (c j : Nat) : bit c j < 2 := Nat.mod_lt _ (by omega)
theorem xor_mod2 (a b : Nat) : (a ^^^ b) % 2 = (a % 2) ^^^ (b % 2) := Nat.xor_mod_two_pow (n := 1)
theorem bit_xor (a b j : Nat) : bit (a ^^^ b) j = bit a j ^^^ bit b j := by
  unfold bit
  rw [Nat.xor_div_two_pow, xor_mod2]
theorem bit_half (c j : Nat) : bit (c / 2) j = bit c (j + 1) := by
  unfold bit
  rw [Nat.div_div_eq_div_mul, Nat.pow_succ, Nat.mul_comm]
theorem two_cases (a : Nat) : a % 2 = 0 ∨ a % 2 = 1 := by omega
/-- one bit into the register -/
def bstep (c x : Nat) : Nat := if (c % 2) ^^^ x = 1 then (c / 2) ^^^ 3988292384 else c / 2
def bs (c b : Nat) : Nat → Nat
  | 0 => c
  | k + 1 => bstep (bs c b k) (bit b k)
theorem xlc (a b c : Nat) : a ^^^ (b ^^^ c) = b ^^^ (a ^^^ c) := by rw [← Nat.xor_assoc, Nat.xor_comm a b, Nat.xor_assoc]
theorem step_xor (x y : Nat) : step (x ^^^ y) = step x ^^^ step y := by
  unfold step
  rw [xor_mod2, Nat.xor_div_two]
  rcases two_cases x with h | h <;> rcases two_cases y with h' | h' <;> simp [h, h', Nat.xor_assoc, Nat.xor_comm, xlc]
theorem it_xor (x y : Nat) : ∀ k, it k (x ^^^ y) = it k x ^^^ it k y
  | 0 => rfl
  | k + 1 => by simp only [it]; rw [it_xor x y k, step_xor]
theorem it_even (y : Nat) : ∀ k j, y % 2 ^ (k + j) = 0 → it k y = y / 2 ^ k ∧ (y / 2 ^ k) % 2 ^ j = 0
  | 0, j, h => by simp only [it, Nat.pow_zero, Nat.div_one, true_and]; simpa using h
  | k + 1, j, h => by
    obtain ⟨h1, h2⟩ := it_even y k (j + 1) (by rw [← h]; congr 2; omega)
    have h3 : (y / 2 ^ k) % 2 = 0 := by
      have e : 2 ^ (j + 1) = 2 * 2 ^ j := by rw [Nat.pow_succ, Nat.mul_comm]
      rw [e] at h2
      have := Nat.mod_mul_right_mod (y / 2 ^ k) 2 (2 ^ j)
      rw [h2] at this; simpa using this.symm
    refine ⟨?_, ?_⟩
    · simp only [it]
      rw [h1]
      unfold step
      rw [if_neg (by omega), Nat.div_div_eq_div_mul, Nat.pow_succ]
    · rw [Nat.pow_succ, ← Nat.div_div_eq_div_mul]
      have e : 2 ^ (j + 1) = 2 * 2 ^ j := by rw [Nat.pow_succ, Nat.mul_comm]
      rw [e] at h2
      have h4 : 2 * 2 ^ j ∣ y / 2 ^ k := Nat.dvd_of_mod_eq_zero h2
      obtain ⟨q, hq⟩ := h4
      rw [hq, Nat.mul_assoc, Nat.mul_div_cancel_left _ (by omega : 0 < 2), Nat.mul_mod_right]
theorem bs_eq (c b : Nat) : ∀ k, bs c b k = it k (c ^^^ b) ^^^ b / 2 ^ k
  | 0 => by simp [bs, it, Nat.xor_assoc]
  | k + 1 => by
    have ih := bs_eq c b k
    have e0 : (bs c b k % 2) ^^^ bit b k = it k (c ^^^ b) % 2 := by
      rw [ih, xor_mod2]; unfold bit
      rw [Nat.xor_assoc, Nat.xor_self, Nat.xor_zero]
    simp only [bs, it]
    unfold bstep step
    rw [e0, ih, Nat.xor_div_two, Nat.div_div_eq_div_mul, ← Nat.pow_succ]
    split
    · rw [Nat.xor_assoc, Nat.xor_assoc, Nat.xor_comm (b / _)]
    · rfl
theorem bs8 (c b : Nat) (hb : b < 256) : bs c b 8 = upd c b := by
  rw [bs_eq]
  have e1 : b / 2 ^ 8 = 0 := Nat.div_eq_of_lt (by omega)
  rw [e1, Nat.xor_zero]
  have e2 : c ^^^ b = ((c % 256) ^^^ b) ^^^ (c / 256 * 256) := by
    apply Nat.eq_of_testBit_eq
    intro i
    have hc : c = (c / 256 * 256) ^^^ (c % 256) := by
      have h := Nat.div_add_mod c 256
      have h2 : c % 256 < 2 ^ 8 := by omega
      have h3 := Nat.two_pow_add_eq_or_of_lt h2 (c / 256)
      have h4 : (2 ^ 8 * (c / 256) ||| c % 256) = (2 ^ 8 * (c / 256)) ^^^ c % 256 := by
        apply Nat.eq_of_testBit_eq
        intro i
        rw [Nat.testBit_or, Nat.testBit_xor, Nat.testBit_two_pow_mul]
        by_cases hi : 8 ≤ i
        · have : (c % 256).testBit i = false := Nat.testBit_lt_two_pow (Nat.lt_of_lt_of_le h2 (Nat.pow_le_pow_right (by omega) hi))
          simp [this]
        · simp [hi]
      have h5 : (c / 256 * 256) ^^^ (c % 256) = 2 ^ 8 * (c / 256) ^^^ c % 256 := by congr 1; omega
      rw [h5, ← h4, ← h3]
      omega
    conv => lhs; rw [hc]
    rw [Nat.xor_comm (c / 256 * 256), Nat.xor_assoc, Nat.xor_comm (c / 256 * 256) b, ← Nat.xor_assoc]
  rw [e2, it_xor, (it_even (c / 256 * 256) 8 0 (by simp [Nat.mul_mod_left])).1]
  unfold upd tab
  rw [show c / 256 * 256 / 2 ^ 8 = c / 256 from by rw [show (2 : Nat) ^ 8 = 256 from rfl]; omega, Nat.xor_comm]
theorem bstep_lt {c : Nat} (h : c < 4294967296) (x : Nat) : bstep c x < 4294967296 := by
  unfold bstep
  split
  · exact Nat.xor_lt_two_pow (n := 32) (by omega) (by omega)
  · omega
theorem bs_lt {c : Nat} (h : c < 4294967296) (b : Nat) : ∀ k, bs c b k < 4294967296
  | 0 => h
  | k + 1 => bstep_lt (bs_lt h b k) _
/-- the number that the register's upper bits give, turned -/
def val (c m : Nat) : Nat := (2 ^ (32 - m) - 1) - c / 2 ^ m
theorem val_top (c : Nat) : val c 32 = 0 := by
  unfold val; simp
theorem val_zero (c : Nat) : val c 0 = 4294967295 - c := by simp [val]
theorem val_step (c m : Nat) (h : c < 4294967296) (hm : m < 32) : val c m + bit c m = 2 * val c (m + 1) + 1 := by
  unfold val bit
  have e1 : 2 ^ (32 - m) = 2 * 2 ^ (32 - (m + 1)) := by
    rw [show 32 - m = (32 - (m + 1)) + 1 from by omega, Nat.pow_succ, Nat.mul_comm]
  have e2 : c / 2 ^ (m + 1) = c / 2 ^ m / 2 := by rw [Nat.pow_succ, Nat.div_div_eq_div_mul]
  have h3 : c / 2 ^ m < 2 ^ (32 - m) := by
    rw [Nat.div_lt_iff_lt_mul (Nat.two_pow_pos m), ← Nat.pow_add, show 32 - m + m = 32 from by omega]; exact h
  have h4 := Nat.two_pow_pos (32 - (m + 1))
  rw [e1, e2]
  rw [e1] at h3
  omega
theorem bit_ones (j : Nat) (h : j < 32) : bit (sum []) j = 1 := by
  have key : ∀ j : Fin 32, bit 4294967295 j.val = 1 := by decide
  exact key ⟨j, h⟩
open Go
theorem ofInt_i64 (a : Nat) (ha : a < 9223372036854775808) : (BitVec.ofInt 64 (a : Int)).toNat = a := by
  rw [BitVec.ofInt_natCast, BitVec.toNat_ofNat]; exact Nat.mod_eq_of_lt (by omega)
theorem i64_and_nat (a b : Nat) (ha : a < 9223372036854775808) (hb : b < 9223372036854775808) : bits .and .i64 (a : Int) (b : Int) = ((a &&& b : Nat) : Int) := by
  have hx : a &&& b < 2 ^ 63 := Nat.and_lt_two_pow _ (by omega)
  show IntKind.i64.wrap ((BitVec.ofInt 64 (a : Int) &&& BitVec.ofInt 64 (b : Int)).toNat : Int) = _
  rw [BitVec.toNat_and, ofInt_i64 a ha, ofInt_i64 b hb, IntKind.wrap_i64]
  omega
theorem i64_xor_nat (a b : Nat) (ha : a < 9223372036854775808) (hb : b < 9223372036854775808) : bits .xor .i64 (a : Int) (b : Int) = ((a ^^^ b : Nat) : Int) := by
  have hx : a ^^^ b < 2 ^ 63 := Nat.xor_lt_two_pow (by omega) (by omega)
  show IntKind.i64.wrap ((BitVec.ofInt 64 (a : Int) ^^^ BitVec.ofInt 64 (b : Int)).toNat : Int) = _
  rw [BitVec.toNat_xor, ofInt_i64 a ha, ofInt_i64 b hb, IntKind.wrap_i64]
  omega
theorem shr_and1 (b k : Nat) (hb : b < 9223372036854775808) : bits .and .i64 ((b : Int) / 2 ^ k) 1 = ((bit b k : Nat) : Int) := by
  have e : ((b : Int) / 2 ^ k) = ((b / 2 ^ k : Nat) : Int) := by simp
  have h : b / 2 ^ k ≤ b := Nat.div_le_self _ _
  rw [e, show (1 : Int) = ((1 : Nat) : Int) from rfl, i64_and_nat _ _ (by omega) (by omega), Nat.and_one_is_mod]
  rfl
theorem xbit_lt (a b j k : Nat) : bit a j ^^^ bit b k < 2 := Nat.xor_lt_two_pow (n := 1) (bit_lt _ _) (bit_lt _ _)
theorem xbit_eq (a b j k : Nat) (hb : b < 9223372036854775808) : bits .xor .i64 (bit a j : Int) (bits .and .i64 ((b : Int) / 2 ^ k) 1) = ((bit a j ^^^ bit b k : Nat) : Int) := by
  rw [shr_and1 b k hb]
  have h1 := bit_lt a j
  have h2 := bit_lt b k
  exact i64_xor_nat _ _ (by omega) (by omega)
theorem bit0 (c : Nat) : bit c 0 = c % 2 := by simp [bit]
theorem bs_one (c b k : Nat) (h : bit (bs c b k) 0 ^^^ bit b k = 1) : bs c b (k + 1) = (bs c b k / 2) ^^^ 3988292384 := by
  rw [bit0] at h
  simp only [bs, bstep]
  rw [if_pos h]
theorem bs_zero (c b k : Nat) (h : bit (bs c b k) 0 ^^^ bit b k = 0) : bs c b (k + 1) = bs c b k / 2 := by
  rw [bit0] at h
  simp only [bs, bstep]
  rw [h, if_neg (by omega)]
theorem val_lt (c m : Nat) : val c m < 4294967296 := by
  unfold val
  have h : 2 ^ (32 - m) ≤ 2 ^ 32 := Nat.pow_le_pow_right (by omega) (by omega)
  generalize 2 ^ (32 - m) = a at *
  generalize c / 2 ^ m = b at *
  omega
theorem poly_eq (c n : Nat) : bits .xor .i64 (bit c n : Int) (bits .and .i64 ((3988292384 : Int) / 2 ^ n) 1) = ((bit c n ^^^ bit 3988292384 n : Nat) : Int) :=
  xbit_eq c 3988292384 n n (by omega)
theorem bit_hi (c j : Nat) (h : c < 4294967296) (hj : 32 ≤ j) : bit c j = 0 := by
  unfold bit
  rw [Nat.div_eq_of_lt (Nat.lt_of_lt_of_le h (Nat.pow_le_pow_right (n := 2) (by omega) hj))]
end Go.Proofs.Ytefklhjjhcobmaa.CrcP
