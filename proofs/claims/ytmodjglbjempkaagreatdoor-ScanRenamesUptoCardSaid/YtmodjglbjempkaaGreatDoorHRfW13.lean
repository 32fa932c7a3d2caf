/- References: Parse, and the statements' own function refs. -/
import Derived.Test.YtmodjglbjempkaaGreatDoorHRfW11
set_option linter.unusedSimpArgs false
set_option linter.unusedVariables false
namespace Go.Proofs.YtmodjglbjempkaaGreatDoor
open Go.RowKit
theorem below_next {w a b : World} (h : Below w.heap.size w a) (k : Below a.heap.size a b) : Below w.heap.size w b := h.trans (k.mono h.size)
theorem Parse_any (s : List UInt8) (w : World) : Calls Tryz.prog 39 #[.string (bstr s)] w fun e w' => e = .returned (.tuple #[.agg (refC (RfP.parseP s).1), .int .i64 (RfP.parseP s).2]) ∧ Below w.heap.size w w' := by
  by_cases h : 500 < s.length
  · exact Parse_long s w h
  · by_cases h2 : s = RfP.refTxt
    · exact Parse_bad s w h2
    · exact Parse_rest s w (by omega) h2
def ref0 : RfP.Ref := ⟨[], 1, 1, 0, 4, 1, false, true, false, false⟩
theorem parse_lit : RfP.parseP [98, 53, 58, 36, 65, 50] = (ref0, 0) := by kernel_rfl
theorem letter_pred : PredC 67 RfP.isLetter := fun c w => rletter_any c w
theorem ef_letter : ∀ args w, (callFunc 67 args).run Tryz.prog w = .ok (.enter 67 args) w := Go.Proofs.enters_of Tryz.func67 (by kernel_rfl) rfl
/-- what Letters returns -/
structure LettersSay (col : Int) (t : List UInt8) (x : Int) : Prop where
  yes : perm col = true → t = RfP.ltr 8 (col.toNat + 1) ∧ x = 0
  no : perm col = false → t = [] ∧ x = 2
theorem RLetters_int (c : Int) (w : World) (h0 : 0 ≤ c) (h1 : c < 1073741824) : Calls Tryz.prog 104 #[.int .i64 c] w fun e w' => e = .returned (.string (bstr (RfP.ltr 8 (c.toNat + 1)))) ∧ Below w.heap.size w w' := by
  obtain ⟨n, rfl⟩ := Int.eq_ofNat_of_zero_le h0
  rw [Int.toNat_natCast]
  exact RLetters_any n w (by omega)
def TruePost (w : World) (e : Ending) (w' : World) : Prop := e = .returned (.bool true) ∧ Below w.heap.size w w'
end Go.Proofs.YtmodjglbjempkaaGreatDoor
