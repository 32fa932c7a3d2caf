/- A world in which the tables and errors that the row of RefCheckMatches lists read as it lists them. -/
import Derived.Test.YtgphgimbnflhfaaDoorRfWit
import Derived.LaidSub
import Derived.Shelf.Vars
set_option linter.unusedSimpArgs false
set_option linter.unusedVariables false
namespace Go.Proofs.YtgphgimbnflhfaaDoor
open Go.ChangeShapes Go.WideShapes Go.ChangeAt Go.RowKit
def cellsD2 : DataW Unit → Array Value
  | .agg l => (l.flatMap fun | .lit (.int k n) => [Value.int k n] | .agg m => m.map (fun | .lit (.int k n) => Value.int k n | _ => Value.bool false) | _ => []).toArray
  | _ => #[]
noncomputable def laidWorld2 (os : Os) : World :=
  { laidWorld os with heap := ((laidWorld os).heap.modify 4 (putC (cellsD2 Rows.laid_unicode_utf8_acceptRanges))).modify 3 (putC (cellsD2 Rows.laid_unicode_utf8_first)) }
theorem laid_met2 (os : Os) (args : Array Value) : laidMet Tryd.prog Rows.refCheckMatchesRow.laid ((laidWorld2 os).forCall (fun _ _ => 0) ⟨#[], args, []⟩).memory :=
  laidMet_of_run' 8 (by kernel_rfl) (by kernel_rfl)
end Go.Proofs.YtgphgimbnflhfaaDoor
