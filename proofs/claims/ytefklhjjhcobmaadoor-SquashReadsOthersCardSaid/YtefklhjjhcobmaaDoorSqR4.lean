/- The walk of the reference's Decimal at one digit. -/
import Derived.Test.YtefklhjjhcobmaaDoorSqR3a
namespace Go.Proofs.YtefklhjjhcobmaaDoor
open Go.RowKit
set_option maxRecDepth 100000 in
set_option maxHeartbeats 400000 in
theorem decimal_digit (n : Nat) (w : World) (hn : n < 10) :
    Calls Tryd.prog 12 #[.int .i64 (n : Int)] w fun e w' => e = .returned (.string (bstr [UInt8.ofNat (48 + n)])) ∧ Below w.heap.size w w' := by
  obtain ⟨c, hc⟩ : ∃ c : Nat, (48 : Int) + (n : Int) = (c : Int) := ⟨48 + n, by omega⟩
  have hcn : 48 + n = c := by omega
  have hc256 : c < 256 := by omega
  have hcm : (c : Int) % 256 = (c : Int) := by omega
  rw [hcn]
  clear hcn
  have hcv := fun W => conv1 (P := Tryd.prog) (src := 28) (dst := 9) Tryd.underlying28 Tryd.underlying5 Tryd.underlying9 W c hc256
  go_enter Tryd.func12, Tryd.ntmps12
  go_wp2
  go_ret
  exact ⟨rfl, (Below.refl _ _).alloc (Nat.le_refl _) _⟩
end Go.Proofs.YtefklhjjhcobmaaDoor
