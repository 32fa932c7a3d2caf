/- The walks of the reader of bits. -/
import Derived.Test.YtefklhjjhcobmaaDoorMem
import Derived.Test.YtefklhjjhcobmaaDoorSqPlain
import Derived.Test.YtefklhjjhcobmaaDoorBits
import Derived.Test.YtefklhjjhcobmaaDoorRows
namespace Go.Proofs.YtefklhjjhcobmaaDoor
open Go.RowKit
set_option maxRecDepth 100000 in
set_option maxHeartbeats 400000 in
theorem bit_end (s : ByteArray) (b : Nat) (w : World) (hs : s.size ≤ 1000000000) (hr : Row w b 49 #[.string s, .int .i64 ((8 * s.size : Nat) : Int)]) :
    Calls Tryd.prog 31 #[.pointer (some ⟨b, 0, none⟩)] w fun e w' => e = .returned (.int .i64 (-1)) ∧ ∃ n, w' = w.drewN n := by
  have hc0 : w.cell? ⟨b, 0, none⟩ = some (.string s) := hr.cell 0
  have hc1 : w.cell? ⟨b, 1, none⟩ = some (.int .i64 ((8 * s.size : Nat) : Int)) := hr.cell 1
  go_enter Tryd.func31, Tryd.ntmps31
  go_wp2
  go_quiet (fail)
  go_wp2
  go_ret
  exact ⟨rfl, nq, rfl⟩
set_option maxRecDepth 100000 in
set_option maxHeartbeats 400000 in
theorem bit_any (s : ByteArray) (i b : Nat) (w : World) (hs : s.size ≤ 1000000000) (hi : i < 8 * s.size) (hr : Row w b 49 #[.string s, .int .i64 (i : Int)]) :
    Calls Tryd.prog 31 #[.pointer (some ⟨b, 0, none⟩)] w fun e w' => e = .returned (.int .i64 (SqP.bitAt s.data.toList i : Int)) ∧ ∃ n, w' = (w.setCell ⟨b, 1, none⟩ (.int .i64 ((i : Int) + 1))).drewN n := by
  have hc0 : w.cell? ⟨b, 0, none⟩ = some (.string s) := hr.cell 0
  have hc1 : w.cell? ⟨b, 1, none⟩ = some (.int .i64 (i : Int)) := hr.cell 1
  have hf1 := hr.frozen 1
  have hne : ((i : Int) == 8 * (s.size : Int)) = false := by simp; omega
  obtain ⟨q, eq⟩ : ∃ q : Nat, (i : Int) / 8 = (q : Int) := ⟨i / 8, by omega⟩
  obtain ⟨m, em⟩ : ∃ m : Nat, (i : Int) % 8 = (m : Int) := ⟨i % 8, by omega⟩
  have hq : q < s.size := by omega
  have hm : m ≤ 7 := by omega
  obtain ⟨t, et⟩ : ∃ t : Nat, IntKind.i64.wrap (7 - (m : Int)) = (t : Int) := ⟨7 - m, by rw [IntKind.wrap_i64]; omega⟩
  have ht : t ≤ 7 := by rw [IntKind.wrap_i64] at et; omega
  have EQ := Bx.mk (show SqP.bitAt s.data.toList i = s[q].toNat / 2 ^ t % 2 by
    have e1 : i / 8 = q := by omega
    have e2 : 7 - i % 8 = t := by rw [IntKind.wrap_i64] at et; omega
    unfold SqP.bitAt
    rw [e1, e2, List.getD_eq_getElem?_getD, List.getElem?_eq_getElem (by simpa using hq)]
    rfl)
  go_enter Tryd.func31, Tryd.ntmps31
  go_wp2
  go_quiet (fail)
  go_wp2
  have hby := s[q].toNat_lt
  go_quiet (fail)
  go_wp2
  go_ret
  refine ⟨?_, _, rfl⟩
  show Ending.returned (Value.int .i64 (bits .and .i64 ((s[q].toNat : Int) / 2 ^ t) 1)) = _
  rw [EQ.out, Bi.shr_and1 _ _ (by omega)]
end Go.Proofs.YtefklhjjhcobmaaDoor
