/- References: the law RefThroughMatches, by the reckoning walk. -/
import Derived.Test.YtgphgimbnflhfaaDoorRfT7
set_option linter.unusedSimpArgs false
set_option linter.unusedVariables false
namespace Go.Proofs.YtgphgimbnflhfaaDoor
open Go.RowKit
open Sym
/-- what the functions answer -/
structure TM (x : RfP.Ref) (R C : List RfP.Step) (E E1 E2 : Int) (Y : RfP.Ref) (e : Int) : Prop where
  t : RfP.throughP x R C = (Y, e)
  e0 : RfP.errP x = E
  e1 : RfP.axErr none R 0 0 = E1
  e2 : RfP.axErr none C 0 0 = E2
/-- what the answers are -/
structure TMs (x : RfP.Ref) (R C : List RfP.Step) (E E1 E2 : Int) (Y : RfP.Ref) (e : Int) : Prop where
  k1 : E ≠ 0 → Y = RfP.zeroR ∧ e = E
  k2 : E = 0 → E1 ≠ 0 → Y = RfP.zeroR ∧ e = E1
  k3 : E = 0 → E1 = 0 → E2 ≠ 0 → Y = RfP.zeroR ∧ e = E2
  k4 : E = 0 → E1 = 0 → E2 = 0 → Y = RfP.thrR x R C ∧ e = 0
theorem tms {x : RfP.Ref} {R C : List RfP.Step} {E E1 E2 : Int} {Y : RfP.Ref} {e : Int} (h : TM x R C E E1 E2 Y e) : TMs x R C E E1 E2 Y e := by
  obtain ⟨ht, h0, h1, h2⟩ := h
  rw [RfP.err_check] at h0
  unfold RfP.throughP at ht
  rw [h0, h1, h2] at ht
  by_cases q : E = 0
  · rw [if_neg (fun e => e q)] at ht
    by_cases q1 : E1 = 0
    · rw [if_neg (fun e => e q1)] at ht
      by_cases q2 : E2 = 0
      · rw [if_neg (fun e => e q2), RfP.thr_same x R C (h0.trans q) (okl_of (h1.trans q1)) (okl_of (h2.trans q2))] at ht
        injection ht with a b
        exact ⟨fun h => absurd q h, fun _ h => absurd q1 h, fun _ _ h => absurd q2 h, fun _ _ _ => ⟨a.symm, b.symm⟩⟩
      · rw [if_pos q2] at ht
        injection ht with a b
        exact ⟨fun h => absurd q h, fun _ h => absurd q1 h, fun _ _ _ => ⟨a.symm, b.symm⟩, fun _ _ h => absurd h q2⟩
    · rw [if_pos q1] at ht
      injection ht with a b
      exact ⟨fun h => absurd q h, fun _ _ => ⟨a.symm, b.symm⟩, fun _ h => absurd h q1, fun _ h => absurd h q1⟩
  · rw [if_pos q] at ht
    injection ht with a b
    exact ⟨fun _ => ⟨a.symm, b.symm⟩, fun h => absurd h q, fun h => absurd h q, fun h => absurd h q⟩
attribute [local irreducible] Calls Sym.AggEq RfP.throughP RfP.errP RfP.checkP RfP.axErr RfP.thrR
set_option maxRecDepth 100000 in
set_option maxHeartbeats 2000000 in
theorem throughLaw_any (x : RfP.Ref) (la lb : Option Addr) (ca cb : Nat) (R C : List RfP.Step) (w : World) (hs : x.sh.length ≤ 9223372036854775807) (hR : StepsAt la R w) (hC : StepsAt lb C w) (lR : R.length ≤ 9223372036854775807) (lC : C.length ≤ 9223372036854775807) :
    Calls Tryd.prog 6 #[.agg (refC x), .slice la R.length ca, .slice lb C.length cb] w (TruePost w) := by
  have hE : RfP.errP x = RfP.checkP x := RfP.err_check x
  have run : ∀ (E E1 E2 : Int) (Y : RfP.Ref) (e : Int), TM x R C E E1 E2 Y e → Calls Tryd.prog 6 #[.agg (refC x), .slice la R.length ca, .slice lb C.length cb] w (TruePost w) := by
    intro E E1 E2 Y e h
    refine enter env_ok Tryd.func6 rfl Tryd.results6 Tryd.ntmps6 [] [] [rS x, .any (.slice la R.length ca), .any (.slice lb C.length cb)] ⟨rS_ok x 0, rfl, rfl, trivial⟩ (Nat.le_of_ble_eq_true rfl) w _ 1000 ?_
    repeat' (first | ((with_reducible first | show wpS _ _ _ _ | show putD _ _ _ _ | show putW _ _ _ _ | show splitG _ _ _ | show wpQ _ _ _ _ _ _ | show wpD _ _ _ _ _ _ _); conv => whnf) | ((with_reducible show RetN _ _ _); refine retB fun β => ?_) | ((with_reducible show _ ∧ _); first | (apply And.intro; (· intro h; exfalso; first | omega | (revert h; decide)); intro _) | (apply And.intro; rotate_left; (· intro h; exfalso; first | omega | (revert h; decide)); intro _) | (refine ⟨fun _ => ?_, fun _ => ?_⟩) | (apply And.intro; · kernel_rfl) | (apply And.intro; · (show inK _ _; unfold inK; omega)) | (apply And.intro; · (show (_ : Int) ≤ 9223372036854775807; simp only [List.length_append, List.length_drop, List.length_take, List.length_cons, List.length_nil]; omega))) | ((with_reducible show CallN _ _ _ _ _ _ _ _); first | (refine call env_ok rfl (.lit true) 1000 (by kernel_rfl) rfl (trivial) (fun β w hm => refs_any w) ?_) | (refine call env_ok rfl (.tup [.agg (rF Y), .int .i64 e]) 1000 (by kernel_rfl) rfl (⟨rS_ok Y _, trivial, trivial⟩) (fun β w hm => by have := Through_any x la lb ca cb R C w (hR.below hm.below) (hC.below hm.below) lR lC; rw [h.t] at this; exact this) ?_) | (refine call env_ok rfl (.int .i64 E) 1000 (by kernel_rfl) rfl (trivial) (fun β w hm => by have := RefError_any x w hs; rw [h.e0] at this; exact this) ?_) | (refine call env_ok rfl (.int .i64 E1) 1000 (by kernel_rfl) rfl (trivial) (fun β w hm => by have := axisError_any la ca R w (hR.below hm.below) lR; rw [h.e1] at this; exact this) ?_) | (refine call env_ok rfl (.int .i64 E2) 1000 (by kernel_rfl) rfl (trivial) (fun β w hm => by have := axisError_any lb cb C w (hC.below hm.below) lC; rw [h.e2] at this; exact this) ?_)) | ((with_reducible show ∃ _ : SV, _); first | (refine ⟨.agg (rF (RfP.thrR x R C)), by kernel_rfl, rS_ok _ _, fun β w hm => RThrough_any x la lb ca cb R C w (hR.below hm.below) (hC.below hm.below) (okl_of (by rw [h.e1]; omega)) (okl_of (by rw [h.e2]; omega)) (by rw [← hE, h.e0]; omega), ?_⟩)) | ((with_reducible show ∃ _, _); first | (refine ⟨_, aggRefZ Y, ?_⟩) | (refine ⟨_, aggRef Y (RfP.thrR x R C), ?_⟩)))
    all_goals have K := tms h
    all_goals obtain ⟨k1, k2, k3, k4⟩ := K
    all_goals clear h hE hs hR hC lR lC
    all_goals by_cases q1 : E = 0
    all_goals by_cases q2 : E1 = 0
    all_goals by_cases q3 : E2 = 0
    all_goals first | (exfalso; omega) | skip
    all_goals simp_all [SV.den, RfP.eqR_self]
  exact run _ _ _ _ _ ⟨rfl, rfl, rfl, rfl⟩
end Go.Proofs.YtgphgimbnflhfaaDoor
