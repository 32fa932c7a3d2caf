/- References: blockError, the reference's Copied and Moved, by the reckoning walk. -/
import Derived.Test.YtgphgimbnflhfaaDoorRfC1
import Derived.Test.YtgphgimbnflhfaaDoorRfPlain6
import Derived.Test.YtgphgimbnflhfaaDoorSym4
import Derived.Test.YtgphgimbnflhfaaDoorEnv
set_option linter.unusedSimpArgs false
set_option linter.unusedVariables false
namespace Go.Proofs.YtgphgimbnflhfaaDoor
open Go.RowKit
open Sym
abbrev rS (x : RfP.Ref) : SV := .agg [.str x.sh, .int .i64 x.k, .int .i64 x.r, .int .i64 x.c, .int .i64 x.r2, .int .i64 x.c2, .bool x.ar, .bool x.ac, .bool x.ar2, .bool x.ac2]
theorem rS_ok (x : RfP.Ref) (n : Nat) : (rS x).ok n := ⟨trivial, trivial, trivial, trivial, trivial, trivial, trivial, trivial, trivial, trivial, trivial⟩
set_option maxRecDepth 100000 in
theorem blockError_any (b : RfP.Rect) (d r : Int) (w : World) : Calls Tryd.prog 22 #[.agg #[.int .i64 b.r, .int .i64 b.c, .int .i64 b.h, .int .i64 b.w], .int .i64 d, .int .i64 r] w fun e w' => e = .returned (.int .i64 (RfP.blockP b d r)) ∧ Below w.heap.size w w' := by
  obtain ⟨b0, b1, b2, b3⟩ := b
  refine enter env_ok Tryd.func22 rfl Tryd.results22 Tryd.ntmps22 [] [] [.agg [.int .i64 b0, .int .i64 b1, .int .i64 b2, .int .i64 b3], .int .i64 d, .int .i64 r] ⟨⟨trivial, trivial, trivial, trivial, trivial⟩, trivial, trivial, trivial⟩ (Nat.le_of_ble_eq_true rfl) w _ 1000 ?_
  repeat' (first | ((with_reducible first | show wpS _ _ _ _ | show putD _ _ _ _ | show putW _ _ _ _ | show splitG _ _ _ | show wpQ _ _ _ _ _ _ | show wpD _ _ _ _ _ _ _); conv => whnf) | ((with_reducible show RetN _ _ _); refine retB fun β => ?_) | ((with_reducible show _ ∧ _); first | (apply And.intro; (· intro h; exfalso; first | omega | (revert h; decide)); intro _) | (apply And.intro; rotate_left; (· intro h; exfalso; first | omega | (revert h; decide)); intro _) | (refine ⟨fun _ => ?_, fun _ => ?_⟩) | (apply And.intro; · kernel_rfl) | (apply And.intro; · (show inK _ _; unfold inK; omega))) | ((with_reducible show CallN _ _ _ _ _ _ _ _); first | (refine call env_ok rfl (.bool (RfP.farP _)) 1000 (by kernel_rfl) rfl (trivial) (fun β w hm => quiet (lfar_any _ w)) ?_)))
  all_goals simp [RfP.blockP, SV.den, *]
theorem move_any (n by' : Int) (abs : Bool) (w : World) (h : inK .i64 (n + by')) : Calls Tryd.prog 51 #[.int .i64 n, .int .i64 by', .bool abs] w fun e w' => e = .returned (.int .i64 (RfP.mv n by' abs)) ∧ Below w.heap.size w w' := by
  refine enter env_ok Tryd.func51 rfl Tryd.results51 Tryd.ntmps51 [] [] [.int .i64 n, .int .i64 by', .bool abs] ⟨trivial, trivial, trivial, trivial⟩ (Nat.le_of_ble_eq_true rfl) w _ 1000 ?_
  unfold inK at h
  repeat' (first | ((with_reducible first | show wpS _ _ _ _ | show putD _ _ _ _ | show putW _ _ _ _ | show splitG _ _ _ | show wpQ _ _ _ _ _ _ | show wpD _ _ _ _ _ _ _); conv => whnf) | ((with_reducible show RetN _ _ _); refine retB fun β => ?_) | ((with_reducible show _ ∧ _); first | (apply And.intro; (· intro h; exfalso; first | omega | (revert h; decide)); intro _) | (apply And.intro; rotate_left; (· intro h; exfalso; first | omega | (revert h; decide)); intro _) | (refine ⟨fun _ => ?_, fun _ => ?_⟩) | (apply And.intro; · kernel_rfl) | (apply And.intro; · (show inK _ _; unfold inK; omega))) | ((with_reducible show CallN _ _ _ _ _ _ _ _); first | fail))
  all_goals simp [RfP.mv, SV.den, *]
theorem insideB (n : Int) (w : World) : Calls Tryd.prog 50 #[.int .i64 n] w fun e w' => e = .returned (.bool (RfP.permP n)) ∧ Below w.heap.size w w' := by
  rw [← perm_permP]; exact quiet (inside_any n w)
theorem permB (n : Int) (w : World) : Calls Tryd.prog 32 #[.int .i64 n] w fun e w' => e = .returned (.bool (RfP.permP n)) ∧ Below w.heap.size w w' := by
  rw [← perm_permP]; exact quiet (permitted_any n w)
theorem far_bound {n : Int} (h : RfP.farP n = false) : -1073741824 ≤ n ∧ n ≤ 1073741824 := by
  unfold RfP.farP at h; simp at h; omega
theorem block_ok {b : RfP.Rect} {d r : Int} (h : RfP.blockP b d r = 0) : (0 ≤ b.r ∧ b.r < 1073741824) ∧ (0 ≤ b.c ∧ b.c < 1073741824) ∧ (1 ≤ b.h ∧ b.h ≤ 1073741824) ∧ (1 ≤ b.w ∧ b.w ≤ 1073741824) ∧ RfP.farP d = false ∧ RfP.farP r = false := by
  unfold RfP.blockP at h
  split at h
  · omega
  · rename_i hn
    simp only [not_or, Bool.not_eq_true] at hn
    obtain ⟨h1, h2, h3, h4, h5, h6, h7, h8, h9, h10⟩ := hn
    exact ⟨by omega, by omega, by omega, by omega, h9, h10⟩
theorem ref_bounds {x : RfP.Ref} (h : RfP.checkP x = 0) : (0 ≤ x.k ∧ x.k ≤ 4) ∧ (0 ≤ x.r ∧ x.r < 1073741824) ∧ (0 ≤ x.c ∧ x.c < 1073741824) ∧ (0 ≤ x.r2 ∧ x.r2 < 1073741824) ∧ (0 ≤ x.c2 ∧ x.c2 < 1073741824) := by
  obtain ⟨hk, _, hin, _⟩ := RfP.check_ok x h
  unfold RfP.insideP RfP.permP at hin
  simp at hin
  omega
attribute [local irreducible] RfP.mv RfP.sortedP RfP.permP
set_option maxRecDepth 100000 in
set_option maxHeartbeats 4000000 in
theorem RMoved_any (x : RfP.Ref) (b : RfP.Rect) (d r : Int) (w : World) (h : RfP.checkP x = 0) (hb : RfP.blockP b d r = 0) : Calls Tryd.prog 25 #[.agg (refC x), .agg #[.int .i64 b.r, .int .i64 b.c, .int .i64 b.h, .int .i64 b.w], .int .i64 d, .int .i64 r] w fun e w' => e = .returned (.agg (refC (RfP.moveR x b d r))) ∧ Below w.heap.size w w' := by
  have hx := ref_bounds h
  obtain ⟨q1, q2, q3, q4, hd, hr⟩ := block_ok hb
  have hd := far_bound hd
  have hr := far_bound hr
  clear h hb
  obtain ⟨b0, b1, b2, b3⟩ := b
  obtain ⟨sh, k, rr, c, r2, c2, ar, ac, ar2, ac2⟩ := x
  dsimp only at *
  refine enter env_ok Tryd.func25 rfl Tryd.results25 Tryd.ntmps25 [] [] [.agg [.str sh, .int .i64 k, .int .i64 rr, .int .i64 c, .int .i64 r2, .int .i64 c2, .bool ar, .bool ac, .bool ar2, .bool ac2], .agg [.int .i64 b0, .int .i64 b1, .int .i64 b2, .int .i64 b3], .int .i64 d, .int .i64 r] (by simp [SV.oks, SV.ok]) (Nat.le_of_ble_eq_true rfl) w _ 1000 ?_
  repeat' (first | ((with_reducible first | show wpS _ _ _ _ | show putD _ _ _ _ | show putW _ _ _ _ | show splitG _ _ _ | show wpQ _ _ _ _ _ _ | show wpD _ _ _ _ _ _ _); conv => whnf) | ((with_reducible show RetN _ _ _); refine retB fun β => ?_) | ((with_reducible show _ ∧ _); first | (apply And.intro; (· intro h; exfalso; first | omega | (revert h; decide)); intro _) | (apply And.intro; rotate_left; (· intro h; exfalso; first | omega | (revert h; decide)); intro _) | (refine ⟨fun _ => ?_, fun _ => ?_⟩) | (apply And.intro; · kernel_rfl) | (apply And.intro; · (show inK _ _; unfold inK; omega))) | ((with_reducible show CallN _ _ _ _ _ _ _ _); first | (refine call env_ok rfl (.bool (RfP.permP _)) 1000 (by kernel_rfl) rfl (trivial) (fun β w hm => insideB _ w) ?_)))
  all_goals (unfold RfP.moveR; dsimp only; repeat' split)
  all_goals first | (exfalso; omega) | (simp_all [SV.den, SV.dens, refC, RfP.insideP, RfP.badR]; done) | (simp_all [SV.den, SV.dens, refC, RfP.insideP, RfP.badR]; exfalso; omega)
set_option maxRecDepth 100000 in
set_option maxHeartbeats 4000000 in
theorem RCopied_any (x : RfP.Ref) (d r : Int) (w : World) (h : RfP.checkP x = 0) (hd : RfP.farP d = false) (hr : RfP.farP r = false) : Calls Tryd.prog 24 #[.agg (refC x), .int .i64 d, .int .i64 r] w fun e w' => e = .returned (.agg (refC (RfP.copyR x d r))) ∧ Below w.heap.size w w' := by
  have hx := ref_bounds h
  have hd := far_bound hd
  have hr := far_bound hr
  clear h
  obtain ⟨sh, k, rr, c, r2, c2, ar, ac, ar2, ac2⟩ := x
  dsimp only at *
  have hk : k = 0 ∨ k = 1 ∨ k = 2 ∨ k = 3 ∨ k = 4 := by omega
  refine enter env_ok Tryd.func24 rfl Tryd.results24 Tryd.ntmps24 [] [] [.agg [.str sh, .int .i64 k, .int .i64 rr, .int .i64 c, .int .i64 r2, .int .i64 c2, .bool ar, .bool ac, .bool ar2, .bool ac2], .int .i64 d, .int .i64 r] (by simp [SV.oks, SV.ok]) (Nat.le_of_ble_eq_true rfl) w _ 1000 ?_
  rcases hk with rfl | rfl | rfl | rfl | rfl
  all_goals repeat' (first | ((with_reducible first | show wpS _ _ _ _ | show putD _ _ _ _ | show putW _ _ _ _ | show splitG _ _ _ | show wpQ _ _ _ _ _ _ | show wpD _ _ _ _ _ _ _); conv => whnf) | ((with_reducible show RetN _ _ _); refine retB fun β => ?_) | ((with_reducible show _ ∧ _); first | (apply And.intro; (· intro h; exfalso; first | omega | (revert h; decide)); intro _) | (apply And.intro; rotate_left; (· intro h; exfalso; first | omega | (revert h; decide)); intro _) | (refine ⟨fun _ => ?_, fun _ => ?_⟩) | (apply And.intro; · kernel_rfl) | (apply And.intro; · (show inK _ _; unfold inK; omega))) | ((with_reducible show CallN _ _ _ _ _ _ _ _); first | (refine call env_ok rfl (.bool (RfP.permP _)) 1000 (by kernel_rfl) rfl (trivial) (fun β w hm => insideB _ w) ?_) | (refine call env_ok rfl (.int .i64 (RfP.mv _ _ _)) 1000 (by kernel_rfl) rfl (trivial) (fun β w hm => move_any _ _ _ w (by unfold inK; omega)) ?_) | (refine call env_ok rfl (rS (RfP.sortedP ⟨_, _, _, _, _, _, _, _, _, _⟩)) 1000 (by kernel_rfl) rfl (rS_ok _ _) (fun β w hm => Sorted_any ⟨_, _, _, _, _, _, _, _, _, _⟩ w) ?_)))
  all_goals simp_all [SV.den, SV.dens, refC, RfP.copyR, RfP.addR, RfP.insideP, RfP.badR]
end Go.Proofs.YtgphgimbnflhfaaDoor
