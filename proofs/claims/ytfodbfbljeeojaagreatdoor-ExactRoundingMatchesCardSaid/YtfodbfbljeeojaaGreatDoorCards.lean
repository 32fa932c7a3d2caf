/-
  DERIVED. GIVEN WITH THE SEED: THE CARDS: each row of YtfodbfbljeeojaaGreatDoorRows.lean that lists a variable, with what it lists TIED to the program's text (the seventh form; the later family's looks); each row that meets fmt, with fmt's text TOLD by the authors' own Lean function (tested against real Go, not proved from fmt's source: count such statements apart). THE CARD IS WHAT COUNTS. Prove the row's statement (the work); the ties are given (YtfodbfbljeeojaaGreatDoorTie.lean); close each card by the builder's one call (the guide's Derived/Test/ToyasCard.lean, 'card_holds'). Laid BY PROGRAM, IN A SANDBOX (cutbox-door.mjs). By AI agents, Wed Nov 11 2026. No macro, syntax, notation, axiom, sorry.
-/
import Derived.Test.YtfodbfbljeeojaaGreatDoorRows
import GoSem.ClaimSeven
namespace Go.Proofs.YtfodbfbljeeojaaGreatDoor
namespace Rows

/-- THE TIED CARD OF 'chancerylaw2.ExactOperationsMatch'. -/
def exactOperationsMatchCard : Claim7 := { stood := { row := exactOperationsMatchRow, standIns := [], harness := (true, "7093f49490e1183aa58462fec254e8b11c92230fd59b633122682a379981ea95"), looks := true }, kinds := [], alts := [], laidByText := true, laidKinds := [.data, .data, .data, .data, .sentinel, .sentinel, .pinned], laidTests := true, laidLooks := .later }
def ExactOperationsMatchCardSaid : Prop := Claim7.holds Tryz.pinned (.plain (OpenSpec.ofChange exactOperationsMatchSpec)) exactOperationsMatchCard

/-- THE TIED CARD OF 'chancerylaw2.ExactPowersMatch'. -/
def exactPowersMatchCard : Claim7 := { stood := { row := exactPowersMatchRow, standIns := [], harness := (true, "7093f49490e1183aa58462fec254e8b11c92230fd59b633122682a379981ea95"), looks := true }, kinds := [], alts := [], laidByText := true, laidKinds := [.data, .data, .data, .data, .sentinel, .sentinel, .pinned], laidTests := true, laidLooks := .later }
def ExactPowersMatchCardSaid : Prop := Claim7.holds Tryz.pinned (.plain (OpenSpec.ofChange exactPowersMatchSpec)) exactPowersMatchCard

/-- THE TIED CARD OF 'chancerylaw2.ExactRootMatches'. -/
def exactRootMatchesCard : Claim7 := { stood := { row := exactRootMatchesRow, standIns := [], harness := (true, "7093f49490e1183aa58462fec254e8b11c92230fd59b633122682a379981ea95"), looks := true }, kinds := [], alts := [], laidByText := true, laidKinds := [.data, .data, .data, .data, .sentinel, .sentinel, .pinned], laidTests := true, laidLooks := .later }
def ExactRootMatchesCardSaid : Prop := Claim7.holds Tryz.pinned (.plain (OpenSpec.ofChange exactRootMatchesSpec)) exactRootMatchesCard

/-- THE TIED CARD OF 'chancerylaw2.ExactParseMatches'. -/
def exactParseMatchesCard : Claim7 := { stood := { row := exactParseMatchesRow, standIns := [], harness := (true, "7093f49490e1183aa58462fec254e8b11c92230fd59b633122682a379981ea95"), looks := true }, kinds := [], alts := [], laidByText := true, laidKinds := [.data, .data, .data, .data, .sentinel, .sentinel, .pinned], laidTests := true, laidLooks := .later }
def ExactParseMatchesCardSaid : Prop := Claim7.holds Tryz.pinned (.plain (OpenSpec.ofChange exactParseMatchesSpec)) exactParseMatchesCard

/-- THE TIED CARD OF 'chancerylaw2.ExactRoundingMatches'. -/
def exactRoundingMatchesCard : Claim7 := { stood := { row := exactRoundingMatchesRow, standIns := [], harness := (true, "7093f49490e1183aa58462fec254e8b11c92230fd59b633122682a379981ea95"), looks := true }, kinds := [], alts := [], laidByText := true, laidKinds := [.data, .data, .data, .data, .sentinel, .sentinel, .pinned], laidTests := true, laidLooks := .later }
def ExactRoundingMatchesCardSaid : Prop := Claim7.holds Tryz.pinned (.plain (OpenSpec.ofChange exactRoundingMatchesSpec)) exactRoundingMatchesCard

/-- THE SECOND FORM's CARD OF 'chancerylaw2.ExactOperationsMatch'. -/
def exactOperationsMatchUptoCard : Claim7 := { stood := { row := exactOperationsMatchUptoRow, standIns := [], harness := (true, "7093f49490e1183aa58462fec254e8b11c92230fd59b633122682a379981ea95"), looks := true }, kinds := [], alts := [], laidByText := true, laidKinds := [.data, .data, .data, .data, .sentinel, .sentinel, .pinned], laidTests := true, laidLooks := .later }
def ExactOperationsMatchUptoCardSaid : Prop := Claim7.holds Tryz.pinned (.plain (OpenSpec.upto exactOperationsMatchSpec)) exactOperationsMatchUptoCard

/-- THE SECOND FORM's CARD OF 'chancerylaw2.ExactPowersMatch'. -/
def exactPowersMatchUptoCard : Claim7 := { stood := { row := exactPowersMatchUptoRow, standIns := [], harness := (true, "7093f49490e1183aa58462fec254e8b11c92230fd59b633122682a379981ea95"), looks := true }, kinds := [], alts := [], laidByText := true, laidKinds := [.data, .data, .data, .data, .sentinel, .sentinel, .pinned], laidTests := true, laidLooks := .later }
def ExactPowersMatchUptoCardSaid : Prop := Claim7.holds Tryz.pinned (.plain (OpenSpec.upto exactPowersMatchSpec)) exactPowersMatchUptoCard

/-- THE SECOND FORM's CARD OF 'chancerylaw2.ExactRootMatches'. -/
def exactRootMatchesUptoCard : Claim7 := { stood := { row := exactRootMatchesUptoRow, standIns := [], harness := (true, "7093f49490e1183aa58462fec254e8b11c92230fd59b633122682a379981ea95"), looks := true }, kinds := [], alts := [], laidByText := true, laidKinds := [.data, .data, .data, .data, .sentinel, .sentinel, .pinned], laidTests := true, laidLooks := .later }
def ExactRootMatchesUptoCardSaid : Prop := Claim7.holds Tryz.pinned (.plain (OpenSpec.upto exactRootMatchesSpec)) exactRootMatchesUptoCard

/-- THE SECOND FORM's CARD OF 'chancerylaw2.ExactParseMatches'. -/
def exactParseMatchesUptoCard : Claim7 := { stood := { row := exactParseMatchesUptoRow, standIns := [], harness := (true, "7093f49490e1183aa58462fec254e8b11c92230fd59b633122682a379981ea95"), looks := true }, kinds := [], alts := [], laidByText := true, laidKinds := [.data, .data, .data, .data, .sentinel, .sentinel, .pinned], laidTests := true, laidLooks := .later }
def ExactParseMatchesUptoCardSaid : Prop := Claim7.holds Tryz.pinned (.plain (OpenSpec.upto exactParseMatchesSpec)) exactParseMatchesUptoCard

/-- THE SECOND FORM's CARD OF 'chancerylaw2.ExactRoundingMatches'. -/
def exactRoundingMatchesUptoCard : Claim7 := { stood := { row := exactRoundingMatchesUptoRow, standIns := [], harness := (true, "7093f49490e1183aa58462fec254e8b11c92230fd59b633122682a379981ea95"), looks := true }, kinds := [], alts := [], laidByText := true, laidKinds := [.data, .data, .data, .data, .sentinel, .sentinel, .pinned], laidTests := true, laidLooks := .later }
def ExactRoundingMatchesUptoCardSaid : Prop := Claim7.holds Tryz.pinned (.plain (OpenSpec.upto exactRoundingMatchesSpec)) exactRoundingMatchesUptoCard
end Rows
end Go.Proofs.YtfodbfbljeeojaaGreatDoor
