/- Bits as lists; the codes as texts. -/
import Derived.Test.YtefklhjjhcobmaaDoorSqPlain
namespace Go.Proofs.YtefklhjjhcobmaaDoor.SqP
def bitsTo (l : List UInt8) (n : Nat) : List Nat := (List.range n).map (bitAt l)
theorem bitsTo_succ (l : List UInt8) (n : Nat) : bitsTo l (n + 1) = bitsTo l n ++ [bitAt l n] := by
  unfold bitsTo; rw [List.range_succ, List.map_append]; rfl
theorem bitsTo_len (l : List UInt8) (n : Nat) : (bitsTo l n).length = n := by simp [bitsTo]
theorem bitAt_at (l : List UInt8) (i m : Nat) (h : m < 8) : bitAt l (8 * i + m) = (l.getD i 0).toNat / 2 ^ (7 - m) % 2 := by
  unfold bitAt
  rw [show (8 * i + m) / 8 = i from by omega, show (8 * i + m) % 8 = m from by omega]
/-- a number of bits -/
def numL (l : List Nat) : Nat := l.foldl (fun n b => 2 * n + b) 0
theorem numL_snoc (l : List Nat) (b : Nat) : numL (l ++ [b]) = 2 * numL l + b := by unfold numL; rw [List.foldl_append]; rfl
end Go.Proofs.YtefklhjjhcobmaaDoor.SqP
