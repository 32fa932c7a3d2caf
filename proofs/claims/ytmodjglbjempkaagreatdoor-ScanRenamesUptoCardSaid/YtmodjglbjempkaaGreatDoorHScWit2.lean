/- A world in which the tables, texts and errors that the rows of the laws on changed formulas list read as they list them. -/
import Derived.Test.YtmodjglbjempkaaGreatDoorHScWit
import Derived.Test.YtmodjglbjempkaaGreatDoorHKa
set_option linter.unusedSimpArgs false
set_option linter.unusedVariables false
namespace Go.Proofs.YtmodjglbjempkaaGreatDoor
open Go.ChangeShapes Go.WideShapes Go.ChangeAt Go.RowKit
noncomputable def laidWorld2 (os : Os) : World :=
  { laidWorld os with heap := ((laidWorld os).heap.modify 6 (putC (cellsD Rows.laid_unicode_utf8_acceptRanges))).modify 5 (putC (cellsD Rows.laid_unicode_utf8_first)) }
theorem laid_met2 (os : Os) (args : Array Value) : laidMet Tryz.prog Rows.scanCopiedAndMovedRow.laid ((laidWorld2 os).forCall (fun _ _ => 0) ⟨#[], args, []⟩).memory :=
  laidMet_of_run' 8 (by kernel_rfl) (by kernel_rfl)
theorem tab_of {W : World} {l : List (String × DataW Unit)} (h : laidMetH Tryz.prog l W) (e : (l.filter fun x => x.1 == "internal/strconv.uint64pow10") = [("internal/strconv.uint64pow10", Lib.tabData .u64 Lib.pow10Tab)]) : Lib.TabIs Tryz.prog W "internal/strconv.uint64pow10" .u64 Lib.pow10Tab := by
  have h1 := h.filter (fun x => x.1 == "internal/strconv.uint64pow10")
  rw [e] at h1
  exact Lib.tabIs_of_head (rest := []) (g := 9) (t := 183) (e := 165) (n := 20) (by kernel_rfl) (by kernel_rfl) Tryz.underlying183 Tryz.underlying165 (by kernel_rfl) (by kernel_rfl) h1
theorem lw_of {W : World} {l : List (String × DataW Unit)} (h : laidMetH Tryz.prog l W) (e : (l.filter fun x => x.1 == "internal/strconv.uint64pow10") = [("internal/strconv.uint64pow10", Lib.tabData .u64 Lib.pow10Tab)]) (hs : W.ShapedOpen Tryz.prog) : LW W :=
  ⟨tab_of h e, cell_of_shapedOpen_int (t := 3) (zero := #[.int .i64 0]) hs (of_decide_eq_true (by kernel_rfl)) (by kernel_rfl) rfl (by kernel_rfl) (by kernel_rfl) Tryz.underlying3⟩
end Go.Proofs.YtmodjglbjempkaaGreatDoor
