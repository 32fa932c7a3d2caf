/- Decimal numbers read: the reference's ReadDecimal. -/
import Derived.Test.YtfodbfbljeeojaaGreatDoorFGS
set_option linter.unusedSimpArgs false
set_option linter.unusedVariables false
namespace Go.Proofs.YtfodbfbljeeojaaGreatDoor
open Go.RowKit
open Sym
attribute [local irreducible] Calls Sym.AggEq ExP.nd ExP.dig ExP.upd ExP.writeF ExP.writeE
end Go.Proofs.YtfodbfbljeeojaaGreatDoor
