/- Patterns: a world in which the tables read as the rows list them. -/
import Derived.Test.YtlccmanncfbdkaaDoorCards
import Derived.Test.YtlccmanncfbdkaaDoorTie
import Derived.ProofKit
import Derived.OpenShut
import Derived.ShutString
import Derived.Deep.DeepHandedRow
import Derived.Lib.LaidTab
import Derived.Lib.LaidU8
import Derived.LaidSub
import Derived.Shelf.Vars
import Derived.Test.YtlccmanncfbdkaaDoorPGE
set_option linter.unusedSimpArgs false
set_option linter.unusedVariables false
namespace Go.Proofs.YtlccmanncfbdkaaDoor
open Go.ChangeShapes Go.WideShapes Go.ChangeAt Go.RowKit
theorem own : ownKnob Tryd.prog.godebug = none := by kernel_rfl
theorem laidOut : laidOutB Tryd.prog = true := by kernel_rfl
def cellsD : DataW Unit → Array Value
  | .agg l => (l.flatMap fun | .lit (.int k n) => [Value.int k n] | .lit (.string s) => [Value.string ⟨s.toArray⟩] | .agg m => m.map (fun | .lit (.int k n) => Value.int k n | _ => Value.bool false) | _ => []).toArray
  | _ => #[]
def putC (cs : Array Value) : Obj → Obj
  | .cells _ t fr => .cells cs t fr
  | o => o
noncomputable def laidWorld (os : Os) : World :=
  let w0 := World.holding Tryd.prog os ⟨#[], #[], []⟩
  { w0 with heap := (w0.heap.modify 1 (putC (cellsD Rows.laid_unicode_utf8_acceptRanges))).modify 0 (putC (cellsD Rows.laid_unicode_utf8_first)) }
theorem laid_met (os : Os) (args : Array Value) : laidMet Tryd.prog Rows.ftextPatternsMatchRow.laid ((laidWorld os).forCall (fun _ _ => 0) ⟨#[], args, []⟩).memory :=
  laidMet_of_run' 8 (by kernel_rfl) (by kernel_rfl)
open Go.Lib in
theorem first_eq : firstData = Rows.laid_unicode_utf8_first := by kernel_rfl
open Go.Lib in
theorem accept_eq : acceptData = Rows.laid_unicode_utf8_acceptRanges := by kernel_rfl
open Go.Lib in
theorem xf_of {W : World} (h : laidMetH Tryd.prog Rows.ftextPatternsMatchRow.laid W) : XF W := by
  have hM : laidMet Tryd.prog Rows.ftextPatternsMatchRow.laid W := h
  have R : ∀ n d, (n, d) ∈ Rows.ftextPatternsMatchRow.laid → VarReads Tryd.prog W n d := fun n d hm => Lib.laidMet.reads hM hm
  exact utf8Tabs_of_reads { Tryd.lays197 with } ⟨by kernel_rfl, by kernel_rfl, by kernel_rfl, by kernel_rfl, by kernel_rfl, by kernel_rfl, by kernel_rfl⟩ (by rw [first_eq]; exact R _ _ (List.mem_of_getElem? (i := 1) rfl)) (by rw [accept_eq]; exact R _ _ (List.mem_of_getElem? (i := 0) rfl))
theorem XF.pos {W : World} (h : XF W) : 0 < W.heap.size := Nat.lt_of_le_of_lt (Nat.zero_le _) (World.block_lt_of_cell? _ _ (h.1 0 (by omega)))
end Go.Proofs.YtlccmanncfbdkaaDoor
