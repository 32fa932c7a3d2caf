/- References: the law RefCheckMatches. -/
import Derived.Test.YtgphgimbnflhfaaDoorRfK4
import Derived.Test.YtgphgimbnflhfaaDoorRfR3
set_option linter.unusedSimpArgs false
set_option linter.unusedVariables false
namespace Go.Proofs.YtgphgimbnflhfaaDoor
open Go.RowKit
open Sym
attribute [local irreducible] Calls Sym.AggEq
set_option maxRecDepth 100000 in
set_option maxHeartbeats 2000000 in
theorem checkLaw_any (x : RfP.Ref) (w : World) (hs : x.sh.length ≤ 9223372036854775807) (hw : LW w) :
    Calls Tryd.prog 7 #[.agg (refC x)] w (TruePost w) := by
  have hE : RfP.errP x = RfP.checkP x := RfP.err_check x
  have HC := fun w => Check_any x w
  have HP := fun w hw => Print_any x w hw
  have HR := fun w => RefError_any x w hs
  rw [hE] at HR
  unfold RfP.printP at HP
  by_cases h : RfP.checkP x = 0
  · have HT := fun w => RefText_any x w h
    simp only [if_pos h] at HP
    rw [h] at HC HR
    generalize RfP.textP x = T at *
    refine enter env_ok Tryd.func7 rfl Tryd.results7 Tryd.ntmps7 [] [] [rS x] ⟨rS_ok x 0, trivial⟩ (Nat.le_of_ble_eq_true rfl) w _ 1000 ?_
    repeat' (first | ((with_reducible first | show wpS _ _ _ _ | show putD _ _ _ _ | show putW _ _ _ _ | show splitG _ _ _ | show wpQ _ _ _ _ _ _ | show wpD _ _ _ _ _ _ _ | show wpX _ _ _ _ _ _ | show expX _ _ _ _ _ _ | show stepX _ _ _ _); conv => whnf) | ((with_reducible show RetN _ _ _); refine retB fun β => ?_) | ((with_reducible show _ ∧ _); first | (apply And.intro; (· intro h; exfalso; first | omega | (revert h; decide)); intro _) | (apply And.intro; rotate_left; (· intro h; exfalso; first | omega | (revert h; decide)); intro _) | (refine ⟨fun _ => ?_, fun _ => ?_⟩) | (apply And.intro; · kernel_rfl) | (apply And.intro; · (show inK _ _; unfold inK; omega)) | (apply And.intro; · (show (_ : Int) ≤ 9223372036854775807; (try simp only [List.length_append, List.length_drop, List.length_take, List.length_cons, List.length_nil]); omega))) | ((with_reducible show bothX _ _); refine bothI ?_ ?_; conv => whnf) | (with_reducible exact trivial) | ((with_reducible show CallN _ _ _ _ _ _ _ _); refine call_of env_ok rfl 1000 ?_) | ((with_reducible show XopN _ _ _ _ _ _); refine xop_of env_ok rfl 1000 ?_) | ((with_reducible show CallX _ _ _ _ _ _); first | (refine callX (.lit true) (by kernel_rfl) rfl (trivial) (fun β w hm => refs_any w) ?_) | (refine callX (.tup [.str T, .int .i64 0]) (by kernel_rfl) rfl (⟨trivial, trivial, trivial⟩) (fun β w hm => HP w (hw.below hm.below)) ?_) | (refine callX (.int .i64 0) (by kernel_rfl) rfl (trivial) (fun β w hm => HC w) ?_) | (refine callX (.int .i64 0) (by kernel_rfl) rfl (trivial) (fun β w hm => HR w) ?_) | (refine callX (.str T) (by kernel_rfl) rfl (trivial) (fun β w hm => HT w) ?_)) | ((with_reducible show OpX _ _ _ _); first | fail) | ((with_reducible show ∃ _ : SV, _); first | (refine ⟨.str T, by kernel_rfl, trivial, fun β w hm => HT w, ?_⟩)) | ((with_reducible show ∃ _, _); first | fail))
    all_goals simp [SV.den]
  · simp only [if_neg h] at HP
    generalize RfP.checkP x = E at *
    refine enter env_ok Tryd.func7 rfl Tryd.results7 Tryd.ntmps7 [] [] [rS x] ⟨rS_ok x 0, trivial⟩ (Nat.le_of_ble_eq_true rfl) w _ 1000 ?_
    repeat' (first | ((with_reducible first | show wpS _ _ _ _ | show putD _ _ _ _ | show putW _ _ _ _ | show splitG _ _ _ | show wpQ _ _ _ _ _ _ | show wpD _ _ _ _ _ _ _ | show wpX _ _ _ _ _ _ | show expX _ _ _ _ _ _ | show stepX _ _ _ _); conv => whnf) | ((with_reducible show RetN _ _ _); refine retB fun β => ?_) | ((with_reducible show _ ∧ _); first | (apply And.intro; (· intro h; exfalso; first | omega | (revert h; decide)); intro _) | (apply And.intro; rotate_left; (· intro h; exfalso; first | omega | (revert h; decide)); intro _) | (refine ⟨fun _ => ?_, fun _ => ?_⟩) | (apply And.intro; · kernel_rfl) | (apply And.intro; · (show inK _ _; unfold inK; omega)) | (apply And.intro; · (show (_ : Int) ≤ 9223372036854775807; (try simp only [List.length_append, List.length_drop, List.length_take, List.length_cons, List.length_nil]); omega))) | ((with_reducible show bothX _ _); refine bothI ?_ ?_; conv => whnf) | (with_reducible exact trivial) | ((with_reducible show CallN _ _ _ _ _ _ _ _); refine call_of env_ok rfl 1000 ?_) | ((with_reducible show XopN _ _ _ _ _ _); refine xop_of env_ok rfl 1000 ?_) | ((with_reducible show CallX _ _ _ _ _ _); first | (refine callX (.lit true) (by kernel_rfl) rfl (trivial) (fun β w hm => refs_any w) ?_) | (refine callX (.tup [.str [], .int .i64 E]) (by kernel_rfl) rfl (⟨trivial, trivial, trivial⟩) (fun β w hm => HP w (hw.below hm.below)) ?_) | (refine callX (.int .i64 E) (by kernel_rfl) rfl (trivial) (fun β w hm => HC w) ?_) | (refine callX (.int .i64 E) (by kernel_rfl) rfl (trivial) (fun β w hm => HR w) ?_)) | ((with_reducible show OpX _ _ _ _); first | fail) | ((with_reducible show ∃ _ : SV, _); first | fail) | ((with_reducible show ∃ _, _); first | fail))
    all_goals simp [SV.den]
end Go.Proofs.YtgphgimbnflhfaaDoor
