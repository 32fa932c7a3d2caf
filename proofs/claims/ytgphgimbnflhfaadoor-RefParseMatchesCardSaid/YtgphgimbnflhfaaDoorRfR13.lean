/- References: the law RefParseMatches. -/
import Derived.Test.YtgphgimbnflhfaaDoorRfR12
import Derived.Test.YtgphgimbnflhfaaDoorRfS0
set_option linter.unusedSimpArgs false
set_option linter.unusedVariables false
namespace Go.Proofs.YtgphgimbnflhfaaDoor
open Go.RowKit
open Sym
attribute [local irreducible] RfP.parseP
set_option maxRecDepth 100000 in
set_option maxHeartbeats 2000000 in
theorem parseLaw_any (s : List UInt8) (w : World) : Calls Tryd.prog 4 #[.string (bstr s)] w (TruePost w) := by
  have h1 := fun w => Parse_any s w
  have h2 := fun w => ReadRef_any s w
  unfold RefPost at h2
  generalize RfP.parseP s = X at h1 h2
  obtain ⟨Y, e⟩ := X
  refine enter env_ok Tryd.func4 rfl Tryd.results4 Tryd.ntmps4 [] [] [.str s] (by simp [SV.oks, SV.ok]) (Nat.le_of_ble_eq_true rfl) w _ 1000 ?_
  repeat' (first | ((with_reducible first | show wpS _ _ _ _ | show putD _ _ _ _ | show putW _ _ _ _ | show splitG _ _ _ | show wpQ _ _ _ _ _ _ | show wpD _ _ _ _ _ _ _); conv => whnf) | ((with_reducible show RetN _ _ _); refine retB fun β => ?_) | ((with_reducible show _ ∧ _); first | (apply And.intro; (· intro h; exfalso; first | omega | (revert h; decide)); intro _) | (apply And.intro; rotate_left; (· intro h; exfalso; first | omega | (revert h; decide)); intro _) | (refine ⟨fun _ => ?_, fun _ => ?_⟩) | (apply And.intro; · kernel_rfl) | (apply And.intro; · (show inK _ _; unfold inK; omega)) | (apply And.intro; · (show (_ : Int) ≤ 9223372036854775807; simp only [List.length_append, List.length_drop, List.length_take, List.length_cons, List.length_nil]; omega))) | ((with_reducible show CallN _ _ _ _ _ _ _ _); first | (refine call env_ok rfl (.lit true) 1000 (by kernel_rfl) rfl (trivial) (fun β w hm => refs_any w) ?_) | (refine call env_ok rfl (.tup [.agg (rF Y), .int .i64 e]) 1000 (by kernel_rfl) rfl (by simp [SV.ok, SV.oks]) (fun β w hm => h1 w) ?_) | (refine call env_ok rfl (.tup [.agg (rF Y), .int .i64 e]) 1000 (by kernel_rfl) rfl (by simp [SV.ok, SV.oks]) (fun β w hm => h2 w) ?_)) | ((with_reducible show ∃ _, _); first | (refine ⟨_, aggRef Y Y, ?_⟩)))
  · simp [SV.den]
  · exact absurd (RfP.eqR_self Y) (by simp [*])
end Go.Proofs.YtgphgimbnflhfaaDoor
