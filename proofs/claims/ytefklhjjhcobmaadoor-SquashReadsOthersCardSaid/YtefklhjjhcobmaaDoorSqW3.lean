/- The walk of the spans. -/
import Derived.Test.YtefklhjjhcobmaaDoorSqW2
namespace Go.Proofs.YtefklhjjhcobmaaDoor
open Go.RowKit
def Bases (w : World) : Prop := ∀ k, k < 8 → w.cell? ⟨0, k, none⟩ = some (.int .i64 ((SqP.bases.getD k 0 : Nat) : Int))
theorem lt_of_cell {w : World} {a : Addr} {v : Value} (h : w.cell? a = some v) : a.block < w.heap.size := block_lt_of_cell h
theorem Bases.lt {w : World} (h : Bases w) : 0 < w.heap.size := lt_of_cell (h 0 (by omega))
theorem Bases.keep {S : Nat → Prop} {w w' : World} (h : Bases w) (k : Keep S w w') (hS : ¬ S 0) : Bases w' := fun i hi => by
  rw [World.cell?_of_block (w := w) (k.block _ h.lt hS)]; exact h i hi
set_option maxRecDepth 100000 in
set_option maxHeartbeats 400000 in
theorem span_any (s : Nat) (w : World) (hs : 256 ≤ s) (hs2 : s < 272) (hB : Bases w) :
    Calls Tryd.prog 29 #[.int .i64 (s : Int)] w fun e w' => e = .returned (.tuple #[.int .i64 (SqP.base s : Int), .int .i64 (SqP.extra s : Int)]) ∧ w = w' := by
  by_cases h : s < 264
  · have HBS := Bx.mk (show SqP.base s = s - 253 by unfold SqP.base; rw [if_pos h])
    have HX := Bx.mk (show SqP.extra s = 0 by unfold SqP.extra; rw [if_pos h])
    clear hB
    go_enter Tryd.func29, Tryd.ntmps29
    go_wp2
    go_ret2
    rw [HBS.out, HX.out]
    exact ⟨by simp; omega, rfl⟩
  · have HBS := Bx.mk (show SqP.base s = SqP.bases.getD (s - 264) 0 by unfold SqP.base; rw [if_neg h])
    have HX := Bx.mk (show SqP.extra s = s - 263 by unfold SqP.extra; rw [if_neg h])
    obtain ⟨q, eq⟩ : ∃ q : Nat, (s : Int) - 264 = (q : Int) := ⟨s - 264, by omega⟩
    have hq : q < 8 := by omega
    have hc := hB q hq
    clear hB
    go_enter Tryd.func29, Tryd.ntmps29
    go_wp2
    go_ret2
    rw [HBS.out, HX.out]
    refine ⟨?_, rfl⟩
    have e : s - 264 = q := by omega
    rw [e]
    simp; omega
end Go.Proofs.YtefklhjjhcobmaaDoor
