/- References: two of them held against each other, for the reckoning walk (of Sz). -/
import Derived.Test.YtmodjglbjempkaaGreatDoorHRfW13
import Derived.Test.YtmodjglbjempkaaGreatDoorHPa
import Derived.Test.YtmodjglbjempkaaGreatDoorHSb
import Derived.Test.YtmodjglbjempkaaGreatDoorHSzEnv
set_option linter.unusedSimpArgs false
set_option linter.unusedVariables false
namespace Go.Proofs.YtmodjglbjempkaaGreatDoor
open Go.RowKit
open Sym
abbrev rF (x : RfP.Ref) : List SV := [.str x.sh, .int .i64 x.k, .int .i64 x.r, .int .i64 x.c, .int .i64 x.r2, .int .i64 x.c2, .bool x.ar, .bool x.ac, .bool x.ar2, .bool x.ac2]
abbrev rS (x : RfP.Ref) : SV := .agg (rF x)
abbrev rZ : List SV := [.str [], .int .i64 0, .int .i64 0, .int .i64 0, .int .i64 0, .int .i64 0, .lit false, .lit false, .lit false, .lit false]
theorem rS_ok (x : RfP.Ref) (n : Nat) : (rS x).ok n := ⟨trivial, trivial, trivial, trivial, trivial, trivial, trivial, trivial, trivial, trivial, trivial⟩
theorem aggRef (x y : RfP.Ref) : AggEq Tryz.prog 35 (rF x) (rF y) (RfP.eqR x y) := ⟨by kernel_rfl, fun _ w => ref_eq x y w⟩
theorem aggRefZ (x : RfP.Ref) : AggEq Tryz.prog 35 (rF x) rZ (RfP.eqR x RfP.zeroR) := ⟨by kernel_rfl, fun _ w => ref_eq x RfP.zeroR w⟩
theorem ref_bounds {x : RfP.Ref} (h : RfP.checkP x = 0) : (0 ≤ x.k ∧ x.k ≤ 4) ∧ (0 ≤ x.r ∧ x.r < 1073741824) ∧ (0 ≤ x.c ∧ x.c < 1073741824) ∧ (0 ≤ x.r2 ∧ x.r2 < 1073741824) ∧ (0 ≤ x.c2 ∧ x.c2 < 1073741824) := by
  obtain ⟨hk, _, hin, _⟩ := RfP.check_ok x h
  unfold RfP.insideP RfP.permP at hin
  simp at hin
  omega
end Go.Proofs.YtmodjglbjempkaaGreatDoor
