/- References: the reference's Through, by the reckoning walk. -/
import Derived.Test.YtgphgimbnflhfaaDoorRfT4
import Derived.Test.YtgphgimbnflhfaaDoorRfT5
set_option linter.unusedSimpArgs false
set_option linter.unusedVariables false
namespace Go.Proofs.YtgphgimbnflhfaaDoor
open Go.RowKit
open Sym
namespace RfP
/-- what the reference makes of a reference -/
def thrR (x : Ref) (R C : List Step) : Ref :=
  if x.k = 4 then x else
  let b0 := if x.k = 0 then x.r else x.r2
  let r0 := if x.k = 0 then x.c else x.c2
  let a : Hu := if x.k = 3 then (x.r, b0, true) else restP R x.r b0
  let b : Hu := if x.k = 2 then (x.c, r0, true) else restP C x.c r0
  if a.2.2 = false ∨ b.2.2 = false ∨ permP a.2.1 = false ∨ permP b.2.1 = false then badR else
  { x with r := a.1, c := b.1, r2 := if x.k = 0 then x.r2 else a.2.1, c2 := if x.k = 0 then x.c2 else b.2.1 }
end RfP
theorem insideB (n : Int) (w : World) : Calls Tryd.prog 50 #[.int .i64 n] w fun e w' => e = .returned (.bool (RfP.permP n)) ∧ Below w.heap.size w w' := by
  rw [← perm_permP]; exact quiet (inside_any n w)
attribute [local irreducible] Calls Sym.AggEq RfP.restP RfP.permP
set_option maxRecDepth 100000 in
set_option maxHeartbeats 4000000 in
theorem RThrough_any (x : RfP.Ref) (la lb : Option Addr) (ca cb : Nat) (R C : List RfP.Step) (w : World) (hR : StepsAt la R w) (hC : StepsAt lb C w) (oR : OKL R) (oC : OKL C) (h : RfP.checkP x = 0) :
    Calls Tryd.prog 28 #[.agg (refC x), .slice la R.length ca, .slice lb C.length cb] w fun e w' => e = .returned (.agg (refC (RfP.thrR x R C))) ∧ Below w.heap.size w w' := by
  have hx := ref_bounds h
  clear h
  obtain ⟨sh, k, rr, c, r2, c2, ar, ac, ar2, ac2⟩ := x
  dsimp only at hx
  refine enter env_ok Tryd.func28 rfl Tryd.results28 Tryd.ntmps28 [] [] [.agg [.str sh, .int .i64 k, .int .i64 rr, .int .i64 c, .int .i64 r2, .int .i64 c2, .bool ar, .bool ac, .bool ar2, .bool ac2], .any (.slice la R.length ca), .any (.slice lb C.length cb)] ⟨⟨trivial, trivial, trivial, trivial, trivial, trivial, trivial, trivial, trivial, trivial, trivial⟩, rfl, rfl, trivial⟩ (Nat.le_of_ble_eq_true rfl) w _ 1000 ?_
  repeat' (first | ((with_reducible first | show wpS _ _ _ _ | show putD _ _ _ _ | show putW _ _ _ _ | show splitG _ _ _ | show wpQ _ _ _ _ _ _ | show wpD _ _ _ _ _ _ _); conv => whnf) | ((with_reducible show RetN _ _ _); refine retB fun β => ?_) | ((with_reducible show _ ∧ _); first | (apply And.intro; (· intro h; exfalso; first | omega | (revert h; decide)); intro _) | (apply And.intro; rotate_left; (· intro h; exfalso; first | omega | (revert h; decide)); intro _) | (refine ⟨fun _ => ?_, fun _ => ?_⟩) | (apply And.intro; · kernel_rfl) | (apply And.intro; · (show inK _ _; unfold inK; omega)) | (apply And.intro; · (show (_ : Int) ≤ 9223372036854775807; simp only [List.length_append, List.length_drop, List.length_take, List.length_cons, List.length_nil]; omega))) | ((with_reducible show CallN _ _ _ _ _ _ _ _); first | (refine call env_ok rfl (.tup [.int .i64 (RfP.restP R _ _).1, .int .i64 (RfP.restP R _ _).2.1, .bool (RfP.restP R _ _).2.2]) 1000 (by kernel_rfl) rfl (⟨trivial, trivial, trivial, trivial⟩) (fun β w hm => rest_any la ca R w (hR.below hm.below) oR _ _ (by omega) (by omega)) ?_) | (refine call env_ok rfl (.tup [.int .i64 (RfP.restP C _ _).1, .int .i64 (RfP.restP C _ _).2.1, .bool (RfP.restP C _ _).2.2]) 1000 (by kernel_rfl) rfl (⟨trivial, trivial, trivial, trivial⟩) (fun β w hm => rest_any lb cb C w (hC.below hm.below) oC _ _ (by omega) (by omega)) ?_) | (refine call env_ok rfl (.bool (RfP.permP _)) 1000 (by kernel_rfl) rfl (trivial) (fun β w hm => insideB _ w) ?_)) | ((with_reducible show ∃ _ : SV, _); first | fail) | ((with_reducible show ∃ _, _); first | fail))
  all_goals clear hR hC oR oC
  all_goals simp_all [RfP.thrR, SV.den, SV.dens, refC, RfP.badR]
end Go.Proofs.YtgphgimbnflhfaaDoor
