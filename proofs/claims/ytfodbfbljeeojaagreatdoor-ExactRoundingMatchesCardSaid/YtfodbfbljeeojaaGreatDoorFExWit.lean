/- A world in which the tables and errors that the rows of fractions list read as they list them. -/
import Derived.Test.YtfodbfbljeeojaaGreatDoorCards
import Derived.Test.YtfodbfbljeeojaaGreatDoorTie
import Derived.ProofKit
import Derived.OpenShut
import Derived.ShutString
import Derived.Deep.DeepHandedRow
import Derived.Lib.LaidTab
import Derived.LaidSub
import Derived.Shelf.Vars
import Derived.Test.YtfodbfbljeeojaaGreatDoorFGH
set_option linter.unusedSimpArgs false
set_option linter.unusedVariables false
namespace Go.Proofs.YtfodbfbljeeojaaGreatDoor
open Go.ChangeShapes Go.WideShapes Go.ChangeAt Go.RowKit
theorem own : ownKnob Tryz.prog.godebug = none := by kernel_rfl
theorem laidOut : laidOutB Tryz.prog = true := by kernel_rfl
def cellsD : DataW Unit → Array Value
  | .agg l => (l.flatMap fun | .lit (.int k n) => [Value.int k n] | .agg m => m.map (fun | .lit (.int k n) => Value.int k n | _ => Value.bool false) | _ => []).toArray
  | _ => #[]
def putC (cs : Array Value) : Obj → Obj
  | .cells _ t fr => .cells cs t fr
  | o => o
def rangeTxt : ByteArray := ⟨#[118, 97, 108, 117, 101, 32, 111, 117, 116, 32, 111, 102, 32, 114, 97, 110, 103, 101]⟩
def syntaxTxt : ByteArray := ⟨#[105, 110, 118, 97, 108, 105, 100, 32, 115, 121, 110, 116, 97, 120]⟩
noncomputable def low : Nat := (World.holding Tryz.prog default ⟨#[], #[], []⟩).heap.size
noncomputable def laidWorld (os : Os) : World :=
  let w0 := World.holding Tryz.prog os ⟨#[.cells #[.string rangeTxt] 176, .cells #[.string syntaxTxt] 176], #[], []⟩
  { w0 with heap := ((((((w0.heap.modify 6 (putC (cellsD Rows.laid_math_bits_deBruijn32tab))).modify 7 (putC (cellsD Rows.laid_math_bits_deBruijn64tab))).modify 2 (putC (cellsD Rows.laid_internal_strconv_uint64pow10))).modify 1 (putC #[.iface 174 (.pointer (some ⟨low, 0, none⟩))])).modify 0 (putC #[.iface 174 (.pointer (some ⟨low + 1, 0, none⟩))])).modify 5 (putC (cellsD Rows.laid_unicode_utf8_acceptRanges))).modify 4 (putC (cellsD Rows.laid_unicode_utf8_first)) }
theorem laid_met (os : Os) (args : Array Value) : laidMet Tryz.prog Rows.exactOperationsMatchRow.laid ((laidWorld os).forCall (fun _ _ => 0) ⟨#[], args, []⟩).memory :=
  laidMet_of_run' 8 (by kernel_rfl) (by kernel_rfl)
theorem table {W : World} (h : laidMetH Tryz.prog Rows.exactOperationsMatchRow.laid W) : XW W := by
  have h1 := h.filter (fun x => x.1 == "internal/strconv.uint64pow10")
  have e : (Rows.exactOperationsMatchRow.laid.filter fun x => x.1 == "internal/strconv.uint64pow10") = [("internal/strconv.uint64pow10", Lib.tabData .u64 Lib.pow10Tab)] := by kernel_rfl
  rw [e] at h1
  exact ⟨Lib.tabIs_of_head (rest := []) (g := 2) (t := 167) (e := 113) (n := 20) (by kernel_rfl) (by kernel_rfl) Tryz.underlying167 Tryz.underlying113 (by kernel_rfl) (by kernel_rfl) h1⟩
theorem XW.pos {W : World} (h : XW W) : 0 < W.heap.size := by
  have h1 := h.tab
  unfold Lib.TabIs World.var? at h1
  rcases Nat.eq_zero_or_pos W.heap.size with h0 | h0
  · cases hg : Tryz.prog.globalNamed "internal/strconv.uint64pow10" with
    | none => rw [hg] at h1; simp at h1
    | some g => rw [hg] at h1; simp [Array.getElem?_eq_none (by omega : W.heap.size ≤ g)] at h1
  · exact h0
end Go.Proofs.YtfodbfbljeeojaaGreatDoor
