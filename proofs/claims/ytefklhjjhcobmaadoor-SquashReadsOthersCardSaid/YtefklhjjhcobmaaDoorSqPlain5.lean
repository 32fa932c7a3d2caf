/- The first four bytes as a number of bits. -/
import Derived.Test.YtefklhjjhcobmaaDoorSqPlain4
namespace Go.Proofs.YtefklhjjhcobmaaDoor.SqP
theorem byte_bits (b : Nat) (h : b < 256) : 2 * (2 * (2 * (2 * (2 * (2 * (2 * (b / 128 % 2) + b / 64 % 2) + b / 32 % 2) + b / 16 % 2) + b / 8 % 2) + b / 4 % 2) + b / 2 % 2) + b % 2 = b := by omega
theorem num_byte (l : List UInt8) (k : Nat) : numL (bitsTo l (8 * (k + 1))) = 256 * numL (bitsTo l (8 * k)) + (l.getD k 0).toNat := by
  have hb := (l.getD k 0).toNat_lt
  have e := byte_bits (l.getD k 0).toNat (by omega)
  have s (m : Nat) (hm : m < 8) : numL (bitsTo l (8 * k + (m + 1))) = 2 * numL (bitsTo l (8 * k + m)) + (l.getD k 0).toNat / 2 ^ (7 - m) % 2 := by
    rw [← Nat.add_assoc, bitsTo_succ, numL_snoc, bitAt_at l k m hm]
  have s0 := s 0 (by omega)
  have s1 := s 1 (by omega)
  have s2 := s 2 (by omega)
  have s3 := s 3 (by omega)
  have s4 := s 4 (by omega)
  have s5 := s 5 (by omega)
  have s6 := s 6 (by omega)
  have s7 := s 7 (by omega)
  simp only [Nat.zero_add, Nat.add_zero, Nat.sub_zero, Nat.reduceAdd, Nat.reduceSub, Nat.reducePow, Nat.div_one] at s0 s1 s2 s3 s4 s5 s6 s7
  rw [show 8 * (k + 1) = 8 * k + 8 from by omega]
  generalize (l.getD k 0).toNat = b at *
  omega
theorem num_be4 (l : List UInt8) : numL (bitsTo l 32) = be4 l := by
  have h3 := num_byte l 3
  have h2 := num_byte l 2
  have h1 := num_byte l 1
  have h0 := num_byte l 0
  have hz : numL (bitsTo l (8 * 0)) = 0 := rfl
  unfold be4
  simp only [Nat.reduceMul, Nat.reduceAdd] at *
  omega
/-- a part of the bits, as a number -/
theorem num_part (l : List UInt8) (n i : Nat) : ∀ k, i + k ≤ n → numL (((bitsTo l n).drop i).take k) = numAt l i k
  | 0, _ => by simp [numL, numAt]
  | k + 1, h => by
    have hlen : k < ((bitsTo l n).drop i).length := by rw [List.length_drop, bitsTo_len]; omega
    rw [List.take_succ_eq_append_getElem hlen, numL_snoc, num_part l n i k (by omega)]
    simp only [numAt]
    congr 1
    rw [List.getElem_drop]
    unfold bitsTo
    rw [List.getElem_map, List.getElem_range]
end Go.Proofs.YtefklhjjhcobmaaDoor.SqP
