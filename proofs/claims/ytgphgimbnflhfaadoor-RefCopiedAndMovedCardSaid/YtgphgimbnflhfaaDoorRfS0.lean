/- References: two of them held against each other, for the reckoning walk. -/
import Derived.Test.YtgphgimbnflhfaaDoorRfW13
import Derived.Test.YtgphgimbnflhfaaDoorSym4
import Derived.Test.YtgphgimbnflhfaaDoorEnv
set_option linter.unusedSimpArgs false
set_option linter.unusedVariables false
namespace Go.Proofs.YtgphgimbnflhfaaDoor
open Go.RowKit
open Sym
abbrev rF (x : RfP.Ref) : List SV := [.str x.sh, .int .i64 x.k, .int .i64 x.r, .int .i64 x.c, .int .i64 x.r2, .int .i64 x.c2, .bool x.ar, .bool x.ac, .bool x.ar2, .bool x.ac2]
abbrev rZ : List SV := [.str [], .int .i64 0, .int .i64 0, .int .i64 0, .int .i64 0, .int .i64 0, .lit false, .lit false, .lit false, .lit false]
theorem aggRef (x y : RfP.Ref) : AggEq Tryd.prog 35 (rF x) (rF y) (RfP.eqR x y) := ⟨by kernel_rfl, fun _ w => ref_eq x y w⟩
theorem aggRefZ (x : RfP.Ref) : AggEq Tryd.prog 35 (rF x) rZ (RfP.eqR x RfP.zeroR) := ⟨by kernel_rfl, fun _ w => ref_eq x RfP.zeroR w⟩
end Go.Proofs.YtgphgimbnflhfaaDoor
