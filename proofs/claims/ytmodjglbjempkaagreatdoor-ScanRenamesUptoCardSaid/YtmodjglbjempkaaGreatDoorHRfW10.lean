/- References: the walk of Parse. -/
import Derived.Test.YtmodjglbjempkaaGreatDoorHRfW9
set_option linter.unusedSimpArgs false
set_option linter.unusedVariables false
namespace Go.Proofs.YtmodjglbjempkaaGreatDoor
open Go.RowKit
theorem Parse_long (s : List UInt8) (w : World) (h : 500 < s.length) : Calls Tryz.prog 39 #[.string (bstr s)] w fun e w' => e = .returned (.tuple #[.agg (refC (RfP.parseP s).1), .int .i64 (RfP.parseP s).2]) ∧ Below w.heap.size w w' := by
  have H := Bx.mk (show RfP.parseP s = (RfP.zeroR, 3) by unfold RfP.parseP; rw [if_pos h])
  have hsz := bstr_size s
  go_enter Tryz.func39, Tryz.ntmps39
  go_wp2
  exact bodyPost_ret (v := .tuple #[.agg #[.string { data := #[] }, .int .i64 0, .int .i64 0, .int .i64 0, .int .i64 0, .int .i64 0, .bool false, .bool false, .bool false, .bool false], .int .i64 3]) (by simp [results, Tryz.results39, go_sem]) rfl ⟨by rw [H.out]; rfl, (Below.refl _ _).alloc (Nat.le_refl _) _⟩
theorem Parse_bad (s : List UInt8) (w : World) (h : s = RfP.refTxt) : Calls Tryz.prog 39 #[.string (bstr s)] w fun e w' => e = .returned (.tuple #[.agg (refC (RfP.parseP s).1), .int .i64 (RfP.parseP s).2]) ∧ Below w.heap.size w w' := by
  have H := Bx.mk (show RfP.parseP s = (RfP.badR, 0) by subst h; unfold RfP.parseP; rw [if_neg (by decide), if_pos rfl])
  have hsz := bstr_size s
  have hl : s.length = 5 := by subst h; rfl
  have hb : ((bstr s).toList == [35, 82, 69, 70, 33]) = true := by subst h; rw [bstr_list]; rfl
  clear h
  go_enter Tryz.func39, Tryz.ntmps39
  go_wp2
  exact bodyPost_ret (v := .tuple #[.agg #[.string { data := #[] }, .int .i64 4, .int .i64 0, .int .i64 0, .int .i64 0, .int .i64 0, .bool false, .bool false, .bool false, .bool false], .int .i64 0]) (by simp [results, Tryz.results39, go_sem]) rfl ⟨by rw [H.out]; rfl, (Below.refl _ _).alloc (Nat.le_refl _) _⟩
end Go.Proofs.YtmodjglbjempkaaGreatDoor
