/-
  DERIVED. GIVEN WITH THE SEED: THE CARDS: each row of YtlccmanncfbdkaaDoorRows.lean that lists a variable, with what it lists TIED to the program's text (the seventh form; the later family's looks); each row that meets fmt, with fmt's text TOLD by the authors' own Lean function (tested against real Go, not proved from fmt's source: count such statements apart). THE CARD IS WHAT COUNTS. Prove the row's statement (the work); the ties are given (YtlccmanncfbdkaaDoorTie.lean); close each card by the builder's one call (the guide's Derived/Test/ToyasCard.lean, 'card_holds'). Laid BY PROGRAM, IN A SANDBOX (cutbox-door.mjs). By AI agents, Wed Nov 11 2026. No macro, syntax, notation, axiom, sorry.
-/
import Derived.Test.YtlccmanncfbdkaaDoorRows
import GoSem.ClaimSeven
namespace Go.Proofs.YtlccmanncfbdkaaDoor
namespace Rows

/-- THE TIED CARD OF 'chancerylaw2.FtextPatternsMatch'. -/
def ftextPatternsMatchCard : Claim7 := { stood := { row := ftextPatternsMatchRow, standIns := [], harness := (true, "5e23496a90440adc54ddf76f6b017ac083cc153c18bb63dd688195def124e62d"), looks := false }, kinds := [], alts := [], laidByText := true, laidKinds := [.data, .pinned], laidTests := true, laidLooks := .later }
def FtextPatternsMatchCardSaid : Prop := Claim7.holds Tryd.pinned (.plain (OpenSpec.ofChange ftextPatternsMatchSpec)) ftextPatternsMatchCard

/-- THE SECOND FORM's CARD OF 'chancerylaw2.FtextPatternsMatch'. -/
def ftextPatternsMatchUptoCard : Claim7 := { stood := { row := ftextPatternsMatchUptoRow, standIns := [], harness := (true, "5e23496a90440adc54ddf76f6b017ac083cc153c18bb63dd688195def124e62d"), looks := false }, kinds := [], alts := [], laidByText := true, laidKinds := [.data, .pinned], laidTests := true, laidLooks := .later }
def FtextPatternsMatchUptoCardSaid : Prop := Claim7.holds Tryd.pinned (.plain (OpenSpec.upto ftextPatternsMatchSpec)) ftextPatternsMatchUptoCard
end Rows
end Go.Proofs.YtlccmanncfbdkaaDoor
