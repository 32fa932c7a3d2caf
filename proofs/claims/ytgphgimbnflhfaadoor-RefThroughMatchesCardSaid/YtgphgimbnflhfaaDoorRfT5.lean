/- References: Through, by the reckoning walk. -/
import Derived.Test.YtgphgimbnflhfaaDoorRfT3
import Derived.Test.YtgphgimbnflhfaaDoorRfC1
import Derived.Test.YtgphgimbnflhfaaDoorRfT0
set_option linter.unusedSimpArgs false
set_option linter.unusedVariables false
namespace Go.Proofs.YtgphgimbnflhfaaDoor
open Go.RowKit
open Sym
namespace RfP
/-- what the program makes of a reference -/
def thrP (x : Ref) (R C : List Step) : Ref :=
  if x.k = 4 then x else
  let y : Ref := if x.k = 0 then { x with r2 := x.r, c2 := x.c } else x
  let a : Hu := if x.k = 3 then (y.r, y.r2, true) else hullP R y.r y.r2
  let b : Hu := if x.k = 2 ∨ a.2.2 = false then (y.c, y.c2, a.2.2) else hullP C y.c y.c2
  if b.2.2 = false then badR else fittingP { y with r := a.1, r2 := a.2.1, c := b.1, c2 := b.2.1 }
def throughP (x : Ref) (R C : List Step) : Ref × Int :=
  if checkP x ≠ 0 then (zeroR, checkP x) else if axErr none R 0 0 ≠ 0 then (zeroR, axErr none R 0 0) else if axErr none C 0 0 ≠ 0 then (zeroR, axErr none C 0 0) else (thrP x R C, 0)
end RfP
attribute [local irreducible] Calls Sym.AggEq RfP.checkP RfP.fittingP RfP.axErr RfP.hullP
set_option maxRecDepth 100000 in
set_option maxHeartbeats 4000000 in
theorem Through_any (x : RfP.Ref) (la lb : Option Addr) (ca cb : Nat) (R C : List RfP.Step) (w : World) (hR : StepsAt la R w) (hC : StepsAt lb C w) (lR : R.length ≤ 9223372036854775807) (lC : C.length ≤ 9223372036854775807) :
    Calls Tryd.prog 26 #[.agg (refC x), .slice la R.length ca, .slice lb C.length cb] w (RefPost w (RfP.throughP x R C)) := by
  have HX : RfP.throughP x R C = if RfP.checkP x ≠ 0 then (RfP.zeroR, RfP.checkP x) else if RfP.axErr none R 0 0 ≠ 0 then (RfP.zeroR, RfP.axErr none R 0 0) else if RfP.axErr none C 0 0 ≠ 0 then (RfP.zeroR, RfP.axErr none C 0 0) else (RfP.thrP x R C, 0) := rfl
  by_cases h : RfP.checkP x = 0
  · have hx := ref_bounds h
    rw [if_neg (fun e => e h)] at HX
    obtain ⟨sh, k, rr, c, r2, c2, ar, ac, ar2, ac2⟩ := x
    dsimp only at hx
    refine enter env_ok Tryd.func26 rfl Tryd.results26 Tryd.ntmps26 [] [] [.agg [.str sh, .int .i64 k, .int .i64 rr, .int .i64 c, .int .i64 r2, .int .i64 c2, .bool ar, .bool ac, .bool ar2, .bool ac2], .any (.slice la R.length ca), .any (.slice lb C.length cb)] ⟨⟨trivial, trivial, trivial, trivial, trivial, trivial, trivial, trivial, trivial, trivial, trivial⟩, rfl, rfl, trivial⟩ (Nat.le_of_ble_eq_true rfl) w _ 1000 ?_
    have u77 := Tryd.underlying77
    have s48 := fun w => Tryd.sizeOf48 w
    have g48 := fun w => Tryd.isAgg48 w
    have z77 := fun w => Tryd.zeroValue77 w
    repeat' (first | ((with_reducible first | show wpS _ _ _ _ | show putD _ _ _ _ | show putW _ _ _ _ | show splitG _ _ _ | show wpQ _ _ _ _ _ _ | show wpD _ _ _ _ _ _ _); conv => whnf) | ((with_reducible show RetN _ _ _); refine retB fun β => ?_) | ((with_reducible show _ ∧ _); first | (apply And.intro; (· intro h; exfalso; first | omega | (revert h; decide)); intro _) | (apply And.intro; rotate_left; (· intro h; exfalso; first | omega | (revert h; decide)); intro _) | (refine ⟨fun _ => ?_, fun _ => ?_⟩) | (apply And.intro; · kernel_rfl) | (apply And.intro; · (show inK _ _; unfold inK; omega)) | (apply And.intro; · (show (_ : Int) ≤ 9223372036854775807; simp only [List.length_append, List.length_drop, List.length_take, List.length_cons, List.length_nil]; omega))) | ((with_reducible show CallN _ _ _ _ _ _ _ _); first | (refine call env_ok rfl (.int .i64 (RfP.checkP ⟨_, _, _, _, _, _, _, _, _, _⟩)) 1000 (by kernel_rfl) rfl (trivial) (fun β w hm => Check_any ⟨_, _, _, _, _, _, _, _, _, _⟩ w) ?_)) | ((with_reducible show ∃ _ : SV, _); first | (refine ⟨_, ?ok, x_pair u77 s48 z77 rfl, ?_⟩; (case ok => exact fun _ h => ⟨h.1, h.2.1, trivial⟩))) | ((with_reducible show ∃ _, _); first | fail))
    refine loop env_ok rfl (T := {i : Nat // i ≤ 2 ∧ (1 ≤ i → RfP.axErr none R 0 0 = 0) ∧ (2 ≤ i → RfP.axErr none C 0 0 = 0)}) (fun t => ⟨[(1, .any (.slice la R.length ca)), (2, .any (.slice lb C.length cb)), (3, .ptr 0 0), (6, .ptr 1 0), (7, .int .i64 0), (21, .agg [.any (.slice la R.length ca), .any (.slice lb C.length cb)]), (22, .int .i64 (t.1 : Nat))], [(0, true, .cells 35 [.str sh, .int .i64 k, .int .i64 rr, .int .i64 c, .int .i64 r2, .int .i64 c2, .bool ar, .bool ac, .bool ar2, .bool ac2]), (1, true, .cells 35 rZ)], 2, 83⟩) (fun t => 2 - t.1) ⟨0, by omega, fun h => absurd h (by omega), fun h => absurd h (by omega)⟩ 1000 [] [] (fun _ => Nat.zero_le _) (by ((with_reducible show wk _ _); repeat' (first | exact trivial | exact eqSV_refl _ | (refine eqI ?_) | (refine eqS ?_) | (with_reducible exact rfl) | apply And.intro | exact Nat.zero_lt_one | exact Nat.le_of_ble_eq_true rfl | (with_reducible assumption) | ((show (_ : Int) = _); (try dsimp only); omega) | ((show eqSV _ _); simp [eqSV, isB, bval, *]; done) | rfl))) (fun t I hI => ?_)
    obtain ⟨i, hi, h1, h2⟩ := t
    have hi3 : i = 0 ∨ i = 1 ∨ i = 2 := by omega
    rcases hi3 with rfl | rfl | rfl
    · dsimp only
      repeat' (first | ((with_reducible first | show wpS _ _ _ _ | show putD _ _ _ _ | show putW _ _ _ _ | show splitG _ _ _ | show wpQ _ _ _ _ _ _ | show wpD _ _ _ _ _ _ _); conv => whnf) | ((with_reducible show RetN _ _ _); refine retB fun β => ?_) | ((with_reducible show _ ∧ _); first | (apply And.intro; (· intro h; exfalso; first | omega | (revert h; decide)); intro _) | (apply And.intro; rotate_left; (· intro h; exfalso; first | omega | (revert h; decide)); intro _) | (refine ⟨fun _ => ?_, fun _ => ?_⟩) | (apply And.intro; · kernel_rfl) | (apply And.intro; · (show inK _ _; unfold inK; omega)) | (apply And.intro; · (show (_ : Int) ≤ 9223372036854775807; simp only [List.length_append, List.length_drop, List.length_take, List.length_cons, List.length_nil]; omega))) | ((with_reducible show CallN _ _ _ _ _ _ _ _); first | (refine call env_ok rfl (.int .i64 (RfP.axErr none R 0 0)) 1000 (by kernel_rfl) rfl (trivial) (fun β w hm => axisCheck_any la ca R w (hR.below hm.below) lR) ?_)) | ((with_reducible show ∃ _ : SV, _); first | (refine ⟨_, ?ok, x_indexAgg (j := 0) u77 s48 g48 (by decide) rfl, ?_⟩; (case ok => exact fun _ _ => rfl))) | ((with_reducible show ∃ _, _); first | fail))
      · rw [HX, if_pos ‹_›]; rfl
      · exact hI _ ⟨1, by omega, fun _ => by omega, fun h => absurd h (by omega)⟩ (by dsimp only; omega) (by ((with_reducible show wk _ _); repeat' (first | exact trivial | exact eqSV_refl _ | (refine eqI ?_) | (refine eqS ?_) | (with_reducible exact rfl) | apply And.intro | exact Nat.zero_lt_one | exact Nat.le_of_ble_eq_true rfl | (with_reducible assumption) | ((show (_ : Int) = _); (try dsimp only); omega) | ((show eqSV _ _); simp [eqSV, isB, bval, *]; done) | rfl)))
    · have e1 := h1 (Nat.le_refl _)
      rw [if_neg (fun e => e e1)] at HX
      dsimp only
      repeat' (first | ((with_reducible first | show wpS _ _ _ _ | show putD _ _ _ _ | show putW _ _ _ _ | show splitG _ _ _ | show wpQ _ _ _ _ _ _ | show wpD _ _ _ _ _ _ _); conv => whnf) | ((with_reducible show RetN _ _ _); refine retB fun β => ?_) | ((with_reducible show _ ∧ _); first | (apply And.intro; (· intro h; exfalso; first | omega | (revert h; decide)); intro _) | (apply And.intro; rotate_left; (· intro h; exfalso; first | omega | (revert h; decide)); intro _) | (refine ⟨fun _ => ?_, fun _ => ?_⟩) | (apply And.intro; · kernel_rfl) | (apply And.intro; · (show inK _ _; unfold inK; omega)) | (apply And.intro; · (show (_ : Int) ≤ 9223372036854775807; simp only [List.length_append, List.length_drop, List.length_take, List.length_cons, List.length_nil]; omega))) | ((with_reducible show CallN _ _ _ _ _ _ _ _); first | (refine call env_ok rfl (.int .i64 (RfP.axErr none C 0 0)) 1000 (by kernel_rfl) rfl (trivial) (fun β w hm => axisCheck_any lb cb C w (hC.below hm.below) lC) ?_)) | ((with_reducible show ∃ _ : SV, _); first | (refine ⟨_, ?ok, x_indexAgg (j := 1) u77 s48 g48 (by decide) rfl, ?_⟩; (case ok => exact fun _ _ => rfl))) | ((with_reducible show ∃ _, _); first | fail))
      · rw [HX, if_pos ‹_›]; rfl
      · exact hI _ ⟨2, by omega, fun _ => e1, fun _ => by omega⟩ (by dsimp only; omega) (by ((with_reducible show wk _ _); repeat' (first | exact trivial | exact eqSV_refl _ | (refine eqI ?_) | (refine eqS ?_) | (with_reducible exact rfl) | apply And.intro | exact Nat.zero_lt_one | exact Nat.le_of_ble_eq_true rfl | (with_reducible assumption) | ((show (_ : Int) = _); (try dsimp only); omega) | ((show eqSV _ _); simp [eqSV, isB, bval, *]; done) | rfl)))
    · have e1 := h1 (by omega)
      have e2 := h2 (Nat.le_refl _)
      have oR := okl_of e1
      have oC := okl_of e2
      rw [if_neg (fun e => e e1), if_neg (fun e => e e2)] at HX
      rw [HX]
      dsimp only
      clear HX u77 s48 g48 z77
      repeat' (first | ((with_reducible first | show wpS _ _ _ _ | show putD _ _ _ _ | show putW _ _ _ _ | show splitG _ _ _ | show wpQ _ _ _ _ _ _ | show wpD _ _ _ _ _ _ _); conv => whnf) | ((with_reducible show RetN _ _ _); refine retB fun β => ?_) | ((with_reducible show _ ∧ _); first | (apply And.intro; (· intro h; exfalso; first | omega | (revert h; decide)); intro _) | (apply And.intro; rotate_left; (· intro h; exfalso; first | omega | (revert h; decide)); intro _) | (refine ⟨fun _ => ?_, fun _ => ?_⟩) | (apply And.intro; · kernel_rfl) | (apply And.intro; · (show inK _ _; unfold inK; omega)) | (apply And.intro; · (show (_ : Int) ≤ 9223372036854775807; simp only [List.length_append, List.length_drop, List.length_take, List.length_cons, List.length_nil]; omega))) | ((with_reducible show CallN _ _ _ _ _ _ _ _); first | (refine call env_ok rfl (.tup [.int .i64 (RfP.hullP R _ _).1, .int .i64 (RfP.hullP R _ _).2.1, .bool (RfP.hullP R _ _).2.2]) 1000 (by kernel_rfl) rfl (⟨trivial, trivial, trivial, trivial⟩) (fun β w hm => hull_any la ca R w (hR.below hm.below) oR _ _ (by omega) (by omega)) ?_) | (refine call env_ok rfl (.tup [.int .i64 (RfP.hullP C _ _).1, .int .i64 (RfP.hullP C _ _).2.1, .bool (RfP.hullP C _ _).2.2]) 1000 (by kernel_rfl) rfl (⟨trivial, trivial, trivial, trivial⟩) (fun β w hm => hull_any lb cb C w (hC.below hm.below) oC _ _ (by omega) (by omega)) ?_) | (refine call env_ok rfl (rS (RfP.fittingP ⟨_, _, _, _, _, _, _, _, _, _⟩)) 1000 (by kernel_rfl) rfl (rS_ok _ _) (fun β w hm => fitting_any ⟨_, _, _, _, _, _, _, _, _, _⟩ w) ?_)) | ((with_reducible show ∃ _ : SV, _); first | fail) | ((with_reducible show ∃ _, _); first | fail))
      all_goals clear h1 h2 hI hR hC oR oC e1 e2
      all_goals simp_all [RfP.thrP, SV.den, SV.dens, refC, RfP.badR]
  · refine enter env_ok Tryd.func26 rfl Tryd.results26 Tryd.ntmps26 [] [] [rS x, .any (.slice la R.length ca), .any (.slice lb C.length cb)] ⟨rS_ok x 0, rfl, rfl, trivial⟩ (Nat.le_of_ble_eq_true rfl) w _ 1000 ?_
    repeat' (first | ((with_reducible first | show wpS _ _ _ _ | show putD _ _ _ _ | show putW _ _ _ _ | show splitG _ _ _ | show wpQ _ _ _ _ _ _ | show wpD _ _ _ _ _ _ _); conv => whnf) | ((with_reducible show RetN _ _ _); refine retB fun β => ?_) | ((with_reducible show _ ∧ _); first | (apply And.intro; (· intro h; exfalso; first | omega | (revert h; decide)); intro _) | (apply And.intro; rotate_left; (· intro h; exfalso; first | omega | (revert h; decide)); intro _) | (refine ⟨fun _ => ?_, fun _ => ?_⟩) | (apply And.intro; · kernel_rfl) | (apply And.intro; · (show inK _ _; unfold inK; omega)) | (apply And.intro; · (show (_ : Int) ≤ 9223372036854775807; simp only [List.length_append, List.length_drop, List.length_take, List.length_cons, List.length_nil]; omega))) | ((with_reducible show CallN _ _ _ _ _ _ _ _); first | (refine call env_ok rfl (.int .i64 (RfP.checkP x)) 1000 (by kernel_rfl) rfl (trivial) (fun β w hm => Check_any x w) ?_)) | ((with_reducible show ∃ _ : SV, _); first | fail) | ((with_reducible show ∃ _, _); first | fail))
    rw [HX, if_pos h]; rfl
end Go.Proofs.YtgphgimbnflhfaaDoor
