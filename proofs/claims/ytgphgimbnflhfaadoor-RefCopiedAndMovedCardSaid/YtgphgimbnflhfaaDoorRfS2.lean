/- References: Moved, by the reckoning walk. -/
import Derived.Test.YtgphgimbnflhfaaDoorRfS1
set_option linter.unusedSimpArgs false
set_option linter.unusedVariables false
namespace Go.Proofs.YtgphgimbnflhfaaDoor
open Go.RowKit
open Sym
theorem permC (n : Int) (β : Nat → Nat) (w : World) : Calls Tryd.prog 32 #[.int .i64 n] w fun e w' => e = .returned ((SV.prop (0 ≤ n ∧ n < 1073741824) inferInstance).den β) ∧ Below w.heap.size w w' := quiet (permitted_any n w)
theorem insideC (n : Int) (β : Nat → Nat) (w : World) : Calls Tryd.prog 50 #[.int .i64 n] w fun e w' => e = .returned ((SV.prop (0 ≤ n ∧ n < 1073741824) inferInstance).den β) ∧ Below w.heap.size w w' := quiet (inside_any n w)
theorem farC (n : Int) (β : Nat → Nat) (w : World) : Calls Tryd.prog 46 #[.int .i64 n] w fun e w' => e = .returned ((SV.prop (n < -1073741824 ∨ 1073741824 < n) inferInstance).den β) ∧ Below w.heap.size w w' := quiet (far_any n w)
theorem lfarC (n : Int) (β : Nat → Nat) (w : World) : Calls Tryd.prog 23 #[.int .i64 n] w fun e w' => e = .returned ((SV.prop (n < -1073741824 ∨ 1073741824 < n) inferInstance).den β) ∧ Below w.heap.size w w' := quiet (lfar_any n w)
namespace RfP
def movedX (x : Ref) (b : Rect) (d r : Int) : Ref × Int := if checkP x ≠ 0 then (zeroR, checkP x) else if blockP b d r ≠ 0 then (zeroR, 2) else (moveP x b d r, 0)
end RfP
theorem block_int (b : RfP.Rect) (d r : Int) : RfP.blockP b d r = if b.r < 0 ∨ 1073741824 ≤ b.r ∨ b.c < 0 ∨ 1073741824 ≤ b.c ∨ b.h < 1 ∨ 1073741824 < b.h ∨ b.w < 1 ∨ 1073741824 < b.w ∨ (d < -1073741824 ∨ 1073741824 < d) ∨ (r < -1073741824 ∨ 1073741824 < r) then 2 else 0 := by
  unfold RfP.blockP RfP.farP; simp only [decide_eq_true_eq]
attribute [local irreducible] RfP.checkP RfP.fittingP
set_option maxRecDepth 100000 in
set_option maxHeartbeats 4000000 in
theorem Moved_any (x : RfP.Ref) (b : RfP.Rect) (d r : Int) (w : World) : Calls Tryd.prog 20 #[.agg (refC x), .agg #[.int .i64 b.r, .int .i64 b.c, .int .i64 b.h, .int .i64 b.w], .int .i64 d, .int .i64 r] w (RefPost w (RfP.movedX x b d r)) := by
  have hB := block_int b d r
  have HX : RfP.movedX x b d r = if RfP.checkP x ≠ 0 then (RfP.zeroR, RfP.checkP x) else if RfP.blockP b d r ≠ 0 then (RfP.zeroR, 2) else (RfP.moveP x b d r, 0) := rfl
  obtain ⟨b0, b1, b2, b3⟩ := b
  by_cases h : RfP.checkP x = 0
  · have hx := ref_bounds h
    obtain ⟨sh, k, rr, c, r2, c2, ar, ac, ar2, ac2⟩ := x
    dsimp only at *
    refine enter env_ok Tryd.func20 rfl Tryd.results20 Tryd.ntmps20 [] [] [.agg [.str sh, .int .i64 k, .int .i64 rr, .int .i64 c, .int .i64 r2, .int .i64 c2, .bool ar, .bool ac, .bool ar2, .bool ac2], .agg [.int .i64 b0, .int .i64 b1, .int .i64 b2, .int .i64 b3], .int .i64 d, .int .i64 r] (by simp [SV.oks, SV.ok]) (Nat.le_of_ble_eq_true rfl) w _ 1000 ?_
    repeat' (first | ((with_reducible first | show wpS _ _ _ _ | show putD _ _ _ _ | show putW _ _ _ _ | show splitG _ _ _ | show wpQ _ _ _ _ _ _ | show wpD _ _ _ _ _ _ _); conv => whnf) | ((with_reducible show RetN _ _ _); refine retB fun β => ?_) | ((with_reducible show _ ∧ _); first | (apply And.intro; (· intro h; exfalso; first | omega | (revert h; decide)); intro _) | (apply And.intro; rotate_left; (· intro h; exfalso; first | omega | (revert h; decide)); intro _) | (refine ⟨fun _ => ?_, fun _ => ?_⟩) | (apply And.intro; · kernel_rfl) | (apply And.intro; · (show inK _ _; unfold inK; omega))) | ((with_reducible show CallN _ _ _ _ _ _ _ _); first | (refine call env_ok rfl (.prop (0 ≤ _ ∧ _ < 1073741824) inferInstance) 1000 (by kernel_rfl) rfl (trivial) (fun β w hm => permC _ β w) ?_) | (refine call env_ok rfl (.prop (_ < -1073741824 ∨ 1073741824 < _) inferInstance) 1000 (by kernel_rfl) rfl (trivial) (fun β w hm => farC _ β w) ?_) | (refine call env_ok rfl (.int .i64 (RfP.checkP ⟨_, _, _, _, _, _, _, _, _, _⟩)) 1000 (by kernel_rfl) rfl (trivial) (fun β w hm => Check_any ⟨_, _, _, _, _, _, _, _, _, _⟩ w) ?_) | (refine call env_ok rfl (rS (RfP.fittingP ⟨_, _, _, _, _, _, _, _, _, _⟩)) 1000 (by kernel_rfl) rfl (rS_ok _ _) (fun β w hm => fitting_any ⟨_, _, _, _, _, _, _, _, _, _⟩ w) ?_)))
    all_goals by_cases hD : (b0 < 0 ∨ 1073741824 ≤ b0 ∨ b1 < 0 ∨ 1073741824 ≤ b1 ∨ b2 < 1 ∨ 1073741824 < b2 ∨ b3 < 1 ∨ 1073741824 < b3 ∨ (d < -1073741824 ∨ 1073741824 < d) ∨ (r < -1073741824 ∨ 1073741824 < r))
    all_goals first | (exfalso; omega) | skip
    all_goals first | (rw [if_pos hD] at hB; rw [HX, if_neg (fun e => e h), if_pos (by rw [hB]; decide)]; rfl) | (rw [if_neg hD] at hB; rw [HX, if_neg (fun e => e h), if_neg (by rw [hB]; simp)])
    all_goals (unfold RfP.moveP; dsimp only; repeat' split)
    all_goals first | rfl | (exfalso; omega)
  · refine enter env_ok Tryd.func20 rfl Tryd.results20 Tryd.ntmps20 [] [] [rS x, .agg [.int .i64 b0, .int .i64 b1, .int .i64 b2, .int .i64 b3], .int .i64 d, .int .i64 r] (by simp [SV.oks, SV.ok]) (Nat.le_of_ble_eq_true rfl) w _ 1000 ?_
    repeat' (first | ((with_reducible first | show wpS _ _ _ _ | show putD _ _ _ _ | show putW _ _ _ _ | show splitG _ _ _ | show wpQ _ _ _ _ _ _ | show wpD _ _ _ _ _ _ _); conv => whnf) | ((with_reducible show RetN _ _ _); refine retB fun β => ?_) | ((with_reducible show _ ∧ _); first | (apply And.intro; (· intro h; exfalso; first | omega | (revert h; decide)); intro _) | (apply And.intro; rotate_left; (· intro h; exfalso; first | omega | (revert h; decide)); intro _) | (refine ⟨fun _ => ?_, fun _ => ?_⟩) | (apply And.intro; · kernel_rfl) | (apply And.intro; · (show inK _ _; unfold inK; omega))) | ((with_reducible show CallN _ _ _ _ _ _ _ _); first | (refine call env_ok rfl (.int .i64 (RfP.checkP x)) 1000 (by kernel_rfl) rfl (trivial) (fun β w hm => Check_any x w) ?_)))
    rw [HX, if_pos h]; rfl
end Go.Proofs.YtgphgimbnflhfaaDoor
