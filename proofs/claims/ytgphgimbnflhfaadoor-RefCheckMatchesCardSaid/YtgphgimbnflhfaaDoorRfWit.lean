/- A world in which the listed tables and errors read as the rows list them. -/
import Derived.Test.YtgphgimbnflhfaaDoorCards
import Derived.Test.YtgphgimbnflhfaaDoorTie
import Derived.ProofKit
import Derived.OpenShut
import Derived.ShutString
import Derived.Deep.DeepHandedRow
import Derived.Lib.LaidTab
set_option linter.unusedSimpArgs false
set_option linter.unusedVariables false
namespace Go.Proofs.YtgphgimbnflhfaaDoor
open Go.ChangeShapes Go.WideShapes Go.ChangeAt Go.RowKit
theorem own : ownKnob Tryd.prog.godebug = none := by kernel_rfl
theorem laidOut : laidOutB Tryd.prog = true := by kernel_rfl
def cellsD : DataW Unit → Array Value
  | .agg l => (l.map fun | .lit (.int k n) => Value.int k n | _ => Value.bool false).toArray
  | _ => #[]
def putC (cs : Array Value) : Obj → Obj
  | .cells _ t fr => .cells cs t fr
  | o => o
def rangeTxt : ByteArray := ⟨#[118, 97, 108, 117, 101, 32, 111, 117, 116, 32, 111, 102, 32, 114, 97, 110, 103, 101]⟩
def syntaxTxt : ByteArray := ⟨#[105, 110, 118, 97, 108, 105, 100, 32, 115, 121, 110, 116, 97, 120]⟩
noncomputable def low : Nat := (World.holding Tryd.prog default ⟨#[], #[], []⟩).heap.size
noncomputable def laidWorld (os : Os) : World :=
  let w0 := World.holding Tryd.prog os ⟨#[.cells #[.string rangeTxt] 144, .cells #[.string syntaxTxt] 144], #[], []⟩
  { w0 with heap := ((((w0.heap.modify 6 (putC (cellsD Rows.laid_math_bits_deBruijn32tab))).modify 7 (putC (cellsD Rows.laid_math_bits_deBruijn64tab))).modify 5 (putC (cellsD Rows.laid_internal_strconv_uint64pow10))).modify 2 (putC #[.iface 142 (.pointer (some ⟨low, 0, none⟩))])).modify 1 (putC #[.iface 142 (.pointer (some ⟨low + 1, 0, none⟩))]) }
theorem laid_met (os : Os) (args : Array Value) : laidMet Tryd.prog Rows.refColumnLettersRow.laid ((laidWorld os).forCall (fun _ _ => 0) ⟨#[], args, []⟩).memory :=
  laidMet_of_run' 8 (by kernel_rfl) (by kernel_rfl)
end Go.Proofs.YtgphgimbnflhfaaDoor
