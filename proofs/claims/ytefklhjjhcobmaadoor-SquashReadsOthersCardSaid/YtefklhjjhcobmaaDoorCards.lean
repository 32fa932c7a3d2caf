/-
  DERIVED. GIVEN WITH THE SEED: THE CARDS: each row of YtefklhjjhcobmaaDoorRows.lean that lists a variable, with what it lists TIED to the program's text (the seventh form; the later family's looks); each row that meets fmt, with fmt's text TOLD by the authors' own Lean function (tested against real Go, not proved from fmt's source: count such statements apart). THE CARD IS WHAT COUNTS. Prove the row's statement (the work); the ties are given (YtefklhjjhcobmaaDoorTie.lean); close each card by the builder's one call (the guide's Derived/Test/ToyasCard.lean, 'card_holds'). Laid BY PROGRAM, IN A SANDBOX (cutbox-door.mjs). By AI agents, Wed Nov 11 2026. No macro, syntax, notation, axiom, sorry.
-/
import Derived.Test.YtefklhjjhcobmaaDoorRows
import GoSem.ClaimSeven
namespace Go.Proofs.YtefklhjjhcobmaaDoor
namespace Rows

/-- THE TIED CARD OF 'chancerylaw2.FtextPatternsMatch'. -/
def ftextPatternsMatchCard : Claim7 := { stood := { row := ftextPatternsMatchRow, standIns := [], harness := (true, "00dc925cc5dda668cf62e9d8dafc5c2a66e4a97ee8a64481123ce6cc4f1a0c32"), looks := false }, kinds := [], alts := [], laidByText := true, laidKinds := [.data, .pinned], laidTests := true, laidLooks := .later }
def FtextPatternsMatchCardSaid : Prop := Claim7.holds Tryd.pinned (.plain (OpenSpec.ofChange ftextPatternsMatchSpec)) ftextPatternsMatchCard

/-- THE TIED CARD OF 'chancerylaw2.SquashUnpackMatches'. -/
def squashUnpackMatchesCard : Claim7 := { stood := { row := squashUnpackMatchesRow, standIns := [], harness := (true, "00dc925cc5dda668cf62e9d8dafc5c2a66e4a97ee8a64481123ce6cc4f1a0c32"), looks := false }, kinds := [], alts := [], laidByText := true, laidKinds := [.data], laidTests := true, laidLooks := .later }
def SquashUnpackMatchesCardSaid : Prop := Claim7.holds Tryd.pinned (.plain (OpenSpec.ofChange squashUnpackMatchesSpec)) squashUnpackMatchesCard

/-- THE TIED CARD OF 'chancerylaw2.SquashReadsOthers'. -/
def squashReadsOthersCard : Claim7 := { stood := { row := squashReadsOthersRow, standIns := [], harness := (true, "00dc925cc5dda668cf62e9d8dafc5c2a66e4a97ee8a64481123ce6cc4f1a0c32"), looks := false }, kinds := [], alts := [], laidByText := true, laidKinds := [.data], laidTests := true, laidLooks := .later }
def SquashReadsOthersCardSaid : Prop := Claim7.holds Tryd.pinned (.plain (OpenSpec.ofChange squashReadsOthersSpec)) squashReadsOthersCard

/-- THE SECOND FORM's CARD OF 'chancerylaw2.FtextPatternsMatch'. -/
def ftextPatternsMatchUptoCard : Claim7 := { stood := { row := ftextPatternsMatchUptoRow, standIns := [], harness := (true, "00dc925cc5dda668cf62e9d8dafc5c2a66e4a97ee8a64481123ce6cc4f1a0c32"), looks := false }, kinds := [], alts := [], laidByText := true, laidKinds := [.data, .pinned], laidTests := true, laidLooks := .later }
def FtextPatternsMatchUptoCardSaid : Prop := Claim7.holds Tryd.pinned (.plain (OpenSpec.upto ftextPatternsMatchSpec)) ftextPatternsMatchUptoCard

/-- THE SECOND FORM's CARD OF 'chancerylaw2.SquashUnpackMatches'. -/
def squashUnpackMatchesUptoCard : Claim7 := { stood := { row := squashUnpackMatchesUptoRow, standIns := [], harness := (true, "00dc925cc5dda668cf62e9d8dafc5c2a66e4a97ee8a64481123ce6cc4f1a0c32"), looks := false }, kinds := [], alts := [], laidByText := true, laidKinds := [.data], laidTests := true, laidLooks := .later }
def SquashUnpackMatchesUptoCardSaid : Prop := Claim7.holds Tryd.pinned (.plain (OpenSpec.upto squashUnpackMatchesSpec)) squashUnpackMatchesUptoCard

/-- THE SECOND FORM's CARD OF 'chancerylaw2.SquashReadsOthers'. -/
def squashReadsOthersUptoCard : Claim7 := { stood := { row := squashReadsOthersUptoRow, standIns := [], harness := (true, "00dc925cc5dda668cf62e9d8dafc5c2a66e4a97ee8a64481123ce6cc4f1a0c32"), looks := false }, kinds := [], alts := [], laidByText := true, laidKinds := [.data], laidTests := true, laidLooks := .later }
def SquashReadsOthersUptoCardSaid : Prop := Claim7.holds Tryd.pinned (.plain (OpenSpec.upto squashReadsOthersSpec)) squashReadsOthersUptoCard
end Rows
end Go.Proofs.YtefklhjjhcobmaaDoor
