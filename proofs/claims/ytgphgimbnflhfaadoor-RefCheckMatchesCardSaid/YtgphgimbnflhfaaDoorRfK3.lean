/- References: the program's Print. -/
import Derived.Test.YtgphgimbnflhfaaDoorRfK2
set_option linter.unusedSimpArgs false
set_option linter.unusedVariables false
namespace Go.Proofs.YtgphgimbnflhfaaDoor
open Go.RowKit
open Sym
attribute [local irreducible] Calls
namespace RfP
def printP (x : Ref) : Str × Int := if checkP x = 0 then (textP x, 0) else ([], checkP x)
end RfP
theorem text0 {x : RfP.Ref} (h : x.k = 0) : RfP.textP x = RfP.sheetT x.sh ++ RfP.colT x.c x.ac ++ RfP.rowT x.r x.ar := by unfold RfP.textP; rw [if_pos h]
theorem text1 {x : RfP.Ref} (h : x.k = 1) : RfP.textP x = RfP.sheetT x.sh ++ RfP.colT x.c x.ac ++ RfP.rowT x.r x.ar ++ [58] ++ RfP.colT x.c2 x.ac2 ++ RfP.rowT x.r2 x.ar2 := by unfold RfP.textP; rw [if_neg (by omega), if_pos h]
theorem text2 {x : RfP.Ref} (h : x.k = 2) : RfP.textP x = RfP.sheetT x.sh ++ RfP.rowT x.r x.ar ++ [58] ++ RfP.rowT x.r2 x.ar2 := by unfold RfP.textP; rw [if_neg (by omega), if_neg (by omega), if_pos h]
theorem text3 {x : RfP.Ref} (h : x.k = 3) : RfP.textP x = RfP.sheetT x.sh ++ RfP.colT x.c x.ac ++ [58] ++ RfP.colT x.c2 x.ac2 := by unfold RfP.textP; rw [if_neg (by omega), if_neg (by omega), if_neg (by omega), if_pos h]
theorem text4 {x : RfP.Ref} (h : x.k = 4) : RfP.textP x = RfP.refTxt := by unfold RfP.textP; rw [if_neg (by omega), if_neg (by omega), if_neg (by omega), if_neg (by omega)]
theorem sheet0 {s : List UInt8} (h : s = []) : RfP.sheetT s = [] := by unfold RfP.sheetT; rw [if_pos h]
theorem sheet1 {s : List UInt8} (h : ¬ s = []) (hp : RfP.plain s = true) : RfP.sheetT s = s ++ [33] := by unfold RfP.sheetT; rw [if_neg h, if_pos hp]
theorem sheet2 {s : List UInt8} (h : ¬ s = []) (hp : RfP.plain s = false) : RfP.sheetT s = [39] ++ RfP.dbl s ++ [39, 33] := by unfold RfP.sheetT; rw [if_neg h, if_neg (by rw [hp]; simp)]
set_option maxRecDepth 100000 in
set_option maxHeartbeats 4000000 in
theorem print_bad (x : RfP.Ref) (w : World) (h : RfP.checkP x ≠ 0) : Calls Tryd.prog 29 #[.agg (refC x)] w fun e w' => e = .returned (.tuple #[.string (bstr []), .int .i64 (RfP.checkP x)]) ∧ Below w.heap.size w w' := by
  have HC := fun w => Check_any x w
  generalize RfP.checkP x = E at *
  refine enter env_ok Tryd.func29 rfl Tryd.results29 Tryd.ntmps29 [] [] [rS x] ⟨rS_ok x 0, trivial⟩ (Nat.le_of_ble_eq_true rfl) w _ 1000 ?_
  repeat' (first | ((with_reducible first | show wpS _ _ _ _ | show putD _ _ _ _ | show putW _ _ _ _ | show splitG _ _ _ | show wpQ _ _ _ _ _ _ | show wpD _ _ _ _ _ _ _ | show wpX _ _ _ _ _ _ | show expX _ _ _ _ _ _ | show stepX _ _ _ _); conv => whnf) | ((with_reducible show RetN _ _ _); refine retB fun β => ?_) | ((with_reducible show _ ∧ _); first | (apply And.intro; (· intro h; exfalso; first | omega | (revert h; decide)); intro _) | (apply And.intro; rotate_left; (· intro h; exfalso; first | omega | (revert h; decide)); intro _) | (refine ⟨fun _ => ?_, fun _ => ?_⟩) | (apply And.intro; · kernel_rfl) | (apply And.intro; · (show inK _ _; unfold inK; omega)) | (apply And.intro; · (show (_ : Int) ≤ 9223372036854775807; simp only [List.length_append, List.length_drop, List.length_take, List.length_cons, List.length_nil]; omega))) | ((with_reducible show bothX _ _); refine bothI ?_ ?_; conv => whnf) | (with_reducible exact trivial) | ((with_reducible show CallN _ _ _ _ _ _ _ _); refine call_of env_ok rfl 1000 ?_) | ((with_reducible show XopN _ _ _ _ _ _); refine xop_of env_ok rfl 1000 ?_) | ((with_reducible show CallX _ _ _ _ _ _); first | (refine callX (.int .i64 E) (by kernel_rfl) rfl (trivial) (fun β w hm => HC w) ?_)) | ((with_reducible show OpX _ _ _ _); first | fail) | ((with_reducible show ∃ _ : SV, _); first | fail) | ((with_reducible show ∃ _, _); first | fail))
  rfl
set_option maxRecDepth 100000 in
set_option maxHeartbeats 8000000 in
theorem print_ok (x : RfP.Ref) (w : World) (hw : LW w) (h : RfP.checkP x = 0) : Calls Tryd.prog 29 #[.agg (refC x)] w fun e w' => e = .returned (.tuple #[.string (bstr (RfP.textP x)), .int .i64 0]) ∧ Below w.heap.size w w' := by
  have HC := fun w => Check_any x w
  rw [h] at HC
  obtain ⟨hk, hr, hc, hr2, hc2⟩ := ref_bounds h
  have hn := ref_name h
  clear h
  have hd := RfP.dbl_len x.sh
  have l1 := colT_len x.c x.ac
  have l2 := colT_len x.c2 x.ac2
  have l3 := rowT_len x.r x.ar hr
  have l4 := rowT_len x.r2 x.ar2 hr2
  refine enter env_ok Tryd.func29 rfl Tryd.results29 Tryd.ntmps29 [] [] [rS x] ⟨rS_ok x 0, trivial⟩ (Nat.le_of_ble_eq_true rfl) w _ 1000 ?_
  repeat' (first | ((with_reducible first | show wpS _ _ _ _ | show putD _ _ _ _ | show putW _ _ _ _ | show splitG _ _ _ | show wpQ _ _ _ _ _ _ | show wpD _ _ _ _ _ _ _ | show wpX _ _ _ _ _ _ | show expX _ _ _ _ _ _ | show stepX _ _ _ _); conv => whnf) | ((with_reducible show RetN _ _ _); refine retB fun β => ?_) | ((with_reducible show _ ∧ _); first | (apply And.intro; (· intro h; exfalso; first | omega | (revert h; decide)); intro _) | (apply And.intro; rotate_left; (· intro h; exfalso; first | omega | (revert h; decide)); intro _) | (refine ⟨fun _ => ?_, fun _ => ?_⟩) | (apply And.intro; · kernel_rfl) | (apply And.intro; · (show inK _ _; unfold inK; omega)) | (apply And.intro; · (show (_ : Int) ≤ 9223372036854775807; simp only [List.length_append, List.length_drop, List.length_take, List.length_cons, List.length_nil]; omega))) | ((with_reducible show bothX _ _); refine bothI ?_ ?_; conv => whnf) | (with_reducible exact trivial) | ((with_reducible show CallN _ _ _ _ _ _ _ _); refine call_of env_ok rfl 1000 ?_) | ((with_reducible show XopN _ _ _ _ _ _); refine xop_of env_ok rfl 1000 ?_) | ((with_reducible show CallX _ _ _ _ _ _); first | (refine callX (.int .i64 0) (by kernel_rfl) rfl (trivial) (fun β w hm => HC w) ?_) | (refine callX (.bool (RfP.plain x.sh)) (by kernel_rfl) rfl (trivial) (fun β w hm => quiet (Plain_any x.sh w (by omega))) ?_) | (refine callX (.str (RfP.dbl x.sh)) (by kernel_rfl) rfl (trivial) (fun β w hm => replaceAll_any x.sh w (hw.below hm.below) hn) ?_)) | ((with_reducible show OpX _ _ _ _); first | fail) | ((with_reducible show ∃ _ : SV, _); first | (refine ⟨.str (RfP.colT x.c x.ac), by kernel_rfl, trivial, fun β w hm => col_any x.c x.ac w hc, ?_⟩) | (refine ⟨.str (RfP.colT x.c2 x.ac2), by kernel_rfl, trivial, fun β w hm => col_any x.c2 x.ac2 w hc2, ?_⟩) | (refine ⟨.str (RfP.rowT x.r x.ar), by kernel_rfl, trivial, fun β w hm => row_any x.r x.ar w hr (hw.below hm.below), ?_⟩) | (refine ⟨.str (RfP.rowT x.r2 x.ar2), by kernel_rfl, trivial, fun β w hm => row_any x.r2 x.ar2 w hr2 (hw.below hm.below), ?_⟩)) | ((with_reducible show ∃ _, _); first | fail))
  all_goals first | rw [text0 (by assumption)] | rw [text1 (by assumption)] | rw [text2 (by assumption)] | rw [text3 (by assumption)] | rw [text4 (by omega)]
  all_goals first | rfl | (rw [sheet0 (Classical.not_not.1 ‹¬¬x.sh = []›)]; rfl) | (rw [sheet1 (by assumption) (by simpa using ‹(!RfP.plain x.sh) = false›)]; rfl) | (rw [sheet2 (by assumption) (by simpa using ‹(!RfP.plain x.sh) = true›)]; rfl)
theorem Print_any (x : RfP.Ref) (w : World) (hw : LW w) : Calls Tryd.prog 29 #[.agg (refC x)] w fun e w' => e = .returned (.tuple #[.string (bstr (RfP.printP x).1), .int .i64 (RfP.printP x).2]) ∧ Below w.heap.size w w' := by
  unfold RfP.printP
  by_cases h : RfP.checkP x = 0
  · rw [if_pos h]; exact print_ok x w hw h
  · rw [if_neg h]; exact print_bad x w h
end Go.Proofs.YtgphgimbnflhfaaDoor
