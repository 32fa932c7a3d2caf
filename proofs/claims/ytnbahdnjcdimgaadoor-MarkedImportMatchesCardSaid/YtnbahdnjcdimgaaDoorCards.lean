/-
  DERIVED. GIVEN WITH THE SEED: THE CARDS: each row of YtnbahdnjcdimgaaDoorRows.lean that lists a variable, with what it lists TIED to the program's text (the seventh form; the later family's looks); each row that meets fmt, with fmt's text TOLD by the authors' own Lean function (tested against real Go, not proved from fmt's source: count such statements apart). THE CARD IS WHAT COUNTS. Prove the row's statement (the work); the ties are given (YtnbahdnjcdimgaaDoorTie.lean); close each card by the builder's one call (the guide's Derived/Test/ToyasCard.lean, 'card_holds'). Laid BY PROGRAM, IN A SANDBOX (cutbox-door.mjs). By AI agents, Wed Nov 11 2026. No macro, syntax, notation, axiom, sorry.
-/
import Derived.Test.YtnbahdnjcdimgaaDoorRows
import GoSem.ClaimSeven
namespace Go.Proofs.YtnbahdnjcdimgaaDoor
namespace Rows

/-- THE TIED CARD OF 'chancerylaw2.MarkedImportMatches'. -/
def markedImportMatchesCard : Claim7 := { stood := { row := markedImportMatchesRow, standIns := [], harness := (true, "cc16d83bbba0b66c83e72c1431ac6095adfff011330cac1cf1d94db4f6e2d925"), looks := false }, kinds := [], alts := [], laidByText := true, laidKinds := [.data, .data, .pinned], laidTests := true, laidLooks := .later }
def MarkedImportMatchesCardSaid : Prop := Claim7.holds Tryd.pinned (.plain (OpenSpec.ofChange markedImportMatchesSpec)) markedImportMatchesCard

/-- THE SECOND FORM's CARD OF 'chancerylaw2.MarkedImportMatches'. -/
def markedImportMatchesUptoCard : Claim7 := { stood := { row := markedImportMatchesUptoRow, standIns := [], harness := (true, "cc16d83bbba0b66c83e72c1431ac6095adfff011330cac1cf1d94db4f6e2d925"), looks := false }, kinds := [], alts := [], laidByText := true, laidKinds := [.data, .data, .pinned], laidTests := true, laidLooks := .later }
def MarkedImportMatchesUptoCardSaid : Prop := Claim7.holds Tryd.pinned (.plain (OpenSpec.upto markedImportMatchesSpec)) markedImportMatchesUptoCard
end Rows
end Go.Proofs.YtnbahdnjcdimgaaDoor
