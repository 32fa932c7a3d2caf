/- The law of rounding. -/
import Derived.Test.YtfodbfbljeeojaaGreatDoorFExU11
import Derived.Test.YtfodbfbljeeojaaGreatDoorFExD6
set_option linter.unusedSimpArgs false
set_option linter.unusedVariables false
namespace Go.Proofs.YtfodbfbljeeojaaGreatDoor
open Go.RowKit
open Sym
attribute [local irreducible] Calls Sym.AggEq ExP.nd ExP.dig ExP.upd ExP.writeF ExP.writeE
set_option maxRecDepth 100000 in
set_option maxHeartbeats 8000000 in
theorem roundLaw_bad (f : ExP.Fr) (n : Int) (w : World) (hw : XW w) (hw0 : 0 < w.heap.size) (h1 : f.1.length ≤ 9223372036854775807) (h2 : f.2.length ≤ 9223372036854775807) (hE : ExP.readE f ≠ 0) :
    Calls Tryz.prog 7 #[frV f, .int .i64 n] w fun e w' => e = .returned (.bool true) ∧ Below w.heap.size w w' := by
  have A0 := fun (w' : World) (h : Below w.heap.size w w') => fractions_any w' (hw.below h) (Nat.lt_of_lt_of_le hw0 h.size)
  have A1 := fun (w' : World) (h : Below w.heap.size w w') => floor_bad f w' (Nat.lt_of_lt_of_le hw0 h.size) h1 h2 hE
  have A2 := fun (w' : World) (h : Below w.heap.size w w') => round_bad f n w' (Nat.lt_of_lt_of_le hw0 h.size) h1 h2 hE
  have A3 := fun (w' : World) (h : Below w.heap.size w w') => fixed_bad f n w' (Nat.lt_of_lt_of_le hw0 h.size) h1 h2 hE
  have A4 := fun (w' : World) (h : Below w.heap.size w w') => shortest_bad f w' (Nat.lt_of_lt_of_le hw0 h.size) h1 h2 hE
  have A5 := fun (w' : World) (h : Below w.heap.size w w') => int_bad f w' (Nat.lt_of_lt_of_le hw0 h.size) h1 h2 hE
  have A6 := fun (w' : World) (h : Below w.heap.size w w') => fracError_any f w' (Nat.lt_of_lt_of_le hw0 h.size) h1 h2
  generalize ExP.readE f = E at *
  obtain ⟨f1, f2⟩ := f
  refine enter env_ok Tryz.func7 rfl Tryz.results7 Tryz.ntmps7 [] [] [.agg [.str f1, .str f2], .int .i64 n] (by simp [SV.oks, SV.ok]) (Nat.le_of_ble_eq_true rfl) w _ 1000 ?_
  repeat' (first | ((with_reducible first | show wpS _ _ _ _ | show putD _ _ _ _ | show putW _ _ _ _ | show splitG _ _ _ | show wpQ _ _ _ _ _ _ | show wpD _ _ _ _ _ _ _ | show wpX _ _ _ _ _ _ _ | show expX _ _ _ _ _ _ | show stepX _ _ _ _ | show keepR _ _ _ | show wpY _ _ _ _); conv => whnf) | ((with_reducible show RetN _ _ _); refine retB fun β => ?_) | ((with_reducible show _ ∧ _); first | (apply And.intro; (· intro h; exfalso; first | omega | (revert h; decide)); intro _) | (apply And.intro; rotate_left; (· intro h; exfalso; first | omega | (revert h; decide)); intro _) | (refine ⟨fun _ => ?_, fun _ => ?_⟩) | (apply And.intro; · kernel_rfl) | (apply And.intro; · (show inK _ _; unfold inK; omega)) | (apply And.intro; · (show (_ : Int) ≤ 9223372036854775807; (try simp only [List.length_append, List.length_drop, List.length_take, List.length_cons, List.length_nil]); omega))) | ((with_reducible show AllBe _); refine allBe fun βe => ?_; conv => whnf) | ((with_reducible show bothX _ _); refine bothI ?_ ?_; conv => whnf) | (with_reducible exact trivial) | ((with_reducible show CallN _ _ _ _ _ _ _ _); refine call_of env_ok rfl 1000 ?_) | ((with_reducible show XopN _ _ _ _ _ _); refine xop_of env_ok rfl 1000 ?_) | ((with_reducible show CallX _ _ _ _ _ _); first | (refine callX (.lit true) (by kernel_rfl) rfl (trivial) (fun β w hm => A0 w hm.below) ?_) | (refine callX (.tup [.agg [.str [], .str []], .int .i64 E]) (by kernel_rfl) rfl (⟨⟨trivial, trivial, trivial⟩, trivial, trivial⟩) (fun β w hm => A1 w hm.below) ?_) | (refine callX (.tup [.agg [.str [], .str []], .int .i64 E]) (by kernel_rfl) rfl (⟨⟨trivial, trivial, trivial⟩, trivial, trivial⟩) (fun β w hm => A2 w hm.below) ?_) | (refine callX (.tup [.str [], .int .i64 E]) (by kernel_rfl) rfl (⟨trivial, trivial, trivial⟩) (fun β w hm => A3 w hm.below) ?_) | (refine callX (.tup [.str [], .lit false, .int .i64 E]) (by kernel_rfl) rfl (⟨trivial, trivial, trivial, trivial⟩) (fun β w hm => A4 w hm.below) ?_) | (refine callX (.tup [.int .i64 0, .lit false, .int .i64 E]) (by kernel_rfl) rfl (⟨trivial, trivial, trivial, trivial⟩) (fun β w hm => A5 w hm.below) ?_) | (refine callX (.int .i64 E) (by kernel_rfl) rfl (trivial) (fun β w hm => A6 w hm.below) ?_) | fail) | ((with_reducible show OpX _ _ _ _); first | fail) | ((with_reducible show ∃ _ : SV, _); first | fail) | ((with_reducible show ∃ _, _); first | (refine ⟨true, fracAggT _ _, ?_⟩) | fail))
  all_goals first | rfl | (exfalso; omega) | (exfalso; simp_all; done) | (simp [SV.den]; done) | fail
end Go.Proofs.YtfodbfbljeeojaaGreatDoor
