/- The law of operations. -/
import Derived.Test.YtfodbfbljeeojaaGreatDoorFGR
import Derived.Test.YtfodbfbljeeojaaGreatDoorFGS
set_option linter.unusedSimpArgs false
set_option linter.unusedVariables false
namespace Go.Proofs.YtfodbfbljeeojaaGreatDoor
open Go.RowKit
open Sym
attribute [local irreducible] Calls Sym.AggEq ExP.nd ExP.dig ExP.upd ExP.writeF ExP.writeE
/-- what is known of a sum, product .. and of what is written of it -/
structure OpI (N : ExP.Num) (F : ExP.Fr) (E : Int) : Prop where
  d : 0 < N.d
  n1 : ExP.nd 10 N.n ≤ 1000000
  n2 : ExP.nd 10 N.d ≤ 1000000
  hF : F = ExP.writeF N
  hE : E = ExP.writeE N
structure LwT where
  a1 : Option Addr
  c1 : Nat
  a2 : Option Addr
  c2 : Nat
  b1 : Option Addr
  e1 : Nat
  b2 : Option Addr
  e2 : Nat
end Go.Proofs.YtfodbfbljeeojaaGreatDoor
