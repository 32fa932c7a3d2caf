/- The law: the checksum, bit by bit. -/
import Derived.Test.YtefklhjjhcobmaaSumW2
import Derived.Test.YtefklhjjhcobmaaSumW3
namespace Go.Proofs.Ytefklhjjhcobmaa
open Go.RowKit
theorem known : ((4294967295 - CrcP.sum (ByteArray.mk #[49, 50, 51, 52, 53, 54, 55, 56, 57]).data.toList : Nat) : Int) = 3421780262 := by decide +kernel
theorem known_any (w : World) :
    Calls Try.prog 4 #[.string { data := #[49, 50, 51, 52, 53, 54, 55, 56, 57] }] w fun e w' => e = .returned (.int .i64 3421780262) ∧ Below w.heap.size w w' := by
  have h := sum_any (ByteArray.mk #[49, 50, 51, 52, 53, 54, 55, 56, 57]) w (by decide +kernel)
  rw [known] at h
  exact h
set_option maxRecDepth 100000 in
set_option maxHeartbeats 400000 in
theorem law_any (s : ByteArray) (w : World) (hs : s.size ≤ maxLen) :
    Calls Try.prog 3 #[.string s] w fun e w' => e = .returned (.bool true) ∧ Below w.heap.size w w' := by
  have hs5 : (s.extract 0 500).size ≤ maxLen := by rw [ByteArray.size_extract]; unfold maxLen at *; omega
  go_enter Try.func3, Try.ntmps3
  go_wp2_with fail
  all_goals
    refine (known_any _).mono ?_
    rintro e w1 ⟨rfl, hb1⟩
    go_wp2_with fail
    refine (sum_any _ _ (by assumption)).mono ?_
    rintro e w2 ⟨rfl, hb2⟩
    go_wp2_with fail
    refine (rsum_any _ _ (by assumption)).mono ?_
    rintro e w3 ⟨rfl, hb3⟩
    go_wp2
    go_ret
    refine ⟨?_, (hb1.trans (hb2.mono hb1.size)).trans (hb3.mono (Nat.le_trans hb1.size hb2.size))⟩
    simp
end Go.Proofs.Ytefklhjjhcobmaa
