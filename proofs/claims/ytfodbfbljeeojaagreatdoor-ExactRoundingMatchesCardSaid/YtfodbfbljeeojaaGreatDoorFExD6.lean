/- The law of reading decimal numbers. -/
import Derived.Test.YtfodbfbljeeojaaGreatDoorFExD5
import Derived.Test.YtfodbfbljeeojaaGreatDoorFExQ5
set_option linter.unusedSimpArgs false
set_option linter.unusedVariables false
namespace Go.Proofs.YtfodbfbljeeojaaGreatDoor
open Go.RowKit
open Sym
attribute [local irreducible] Calls Sym.AggEq ExP.nd ExP.dig ExP.upd ExP.writeF ExP.writeE
section
attribute [local semireducible] ExP.writeF ExP.writeE
end
end Go.Proofs.YtfodbfbljeeojaaGreatDoor
