/-
  DERIVED. GIVEN WITH THE SEED: THE CARDS: each row of YtmodjglbjempkaaGreatDoorRows.lean that lists a variable, with what it lists TIED to the program's text (the seventh form; the later family's looks); each row that meets fmt, with fmt's text TOLD by the authors' own Lean function (tested against real Go, not proved from fmt's source: count such statements apart). THE CARD IS WHAT COUNTS. Prove the row's statement (the work); the ties are given (YtmodjglbjempkaaGreatDoorTie.lean); close each card by the builder's one call (the guide's Derived/Test/ToyasCard.lean, 'card_holds'). Laid BY PROGRAM, IN A SANDBOX (cutbox-door.mjs). By AI agents, Wed Nov 11 2026. No macro, syntax, notation, axiom, sorry.
-/
import Derived.Test.YtmodjglbjempkaaGreatDoorRows
import GoSem.ClaimSeven
namespace Go.Proofs.YtmodjglbjempkaaGreatDoor
namespace Rows

/-- THE TIED CARD OF 'chancerylaw2.ScanTokensMatch'. -/
def scanTokensMatchCard : Claim7 := { stood := { row := scanTokensMatchRow, standIns := [], harness := (true, "03d0adea6168be1b4dc5afc8764b2fa7a2d5dfd2f8b28b9099ea640a7a790638"), looks := true }, kinds := [], alts := [], laidByText := true, laidKinds := [.data, .data, .data, .data, .sentinel, .sentinel], laidTests := true, laidLooks := .later }
def ScanTokensMatchCardSaid : Prop := Claim7.holds Tryz.pinned (.plain (OpenSpec.ofChange scanTokensMatchSpec)) scanTokensMatchCard

/-- THE TIED CARD OF 'chancerylaw2.ScanCopiedAndMoved'. -/
def scanCopiedAndMovedCard : Claim7 := { stood := { row := scanCopiedAndMovedRow, standIns := [], harness := (true, "03d0adea6168be1b4dc5afc8764b2fa7a2d5dfd2f8b28b9099ea640a7a790638"), looks := true }, kinds := [], alts := [], laidByText := true, laidKinds := [.data, .data, .data, .data, .data, .sentinel, .sentinel, .pinned], laidTests := true, laidLooks := .later }
def ScanCopiedAndMovedCardSaid : Prop := Claim7.holds Tryz.pinned (.plain (OpenSpec.ofChange scanCopiedAndMovedSpec)) scanCopiedAndMovedCard

/-- THE TIED CARD OF 'chancerylaw2.ScanAdjustMatches'. -/
def scanAdjustMatchesCard : Claim7 := { stood := { row := scanAdjustMatchesRow, standIns := [], harness := (true, "03d0adea6168be1b4dc5afc8764b2fa7a2d5dfd2f8b28b9099ea640a7a790638"), looks := true }, kinds := [], alts := [], laidByText := true, laidKinds := [.data, .data, .data, .data, .data, .sentinel, .sentinel, .pinned], laidTests := true, laidLooks := .later }
def ScanAdjustMatchesCardSaid : Prop := Claim7.holds Tryz.pinned (.plain (OpenSpec.ofChange scanAdjustMatchesSpec)) scanAdjustMatchesCard

/-- THE TIED CARD OF 'chancerylaw2.ScanRenames'. -/
def scanRenamesCard : Claim7 := { stood := { row := scanRenamesRow, standIns := [], harness := (true, "03d0adea6168be1b4dc5afc8764b2fa7a2d5dfd2f8b28b9099ea640a7a790638"), looks := true }, kinds := [], alts := [], laidByText := true, laidKinds := [.data, .data, .data, .data, .data, .sentinel, .sentinel, .data, .data, .pinned, .pinned], laidTests := true, laidLooks := .later }
def ScanRenamesCardSaid : Prop := Claim7.holds Tryz.pinned (.plain (OpenSpec.ofChange scanRenamesSpec)) scanRenamesCard

/-- THE SECOND FORM's CARD OF 'chancerylaw2.ScanTokensMatch'. -/
def scanTokensMatchUptoCard : Claim7 := { stood := { row := scanTokensMatchUptoRow, standIns := [], harness := (true, "03d0adea6168be1b4dc5afc8764b2fa7a2d5dfd2f8b28b9099ea640a7a790638"), looks := true }, kinds := [], alts := [], laidByText := true, laidKinds := [.data, .data, .data, .data, .sentinel, .sentinel], laidTests := true, laidLooks := .later }
def ScanTokensMatchUptoCardSaid : Prop := Claim7.holds Tryz.pinned (.plain (OpenSpec.upto scanTokensMatchSpec)) scanTokensMatchUptoCard

/-- THE SECOND FORM's CARD OF 'chancerylaw2.ScanCopiedAndMoved'. -/
def scanCopiedAndMovedUptoCard : Claim7 := { stood := { row := scanCopiedAndMovedUptoRow, standIns := [], harness := (true, "03d0adea6168be1b4dc5afc8764b2fa7a2d5dfd2f8b28b9099ea640a7a790638"), looks := true }, kinds := [], alts := [], laidByText := true, laidKinds := [.data, .data, .data, .data, .data, .sentinel, .sentinel, .pinned], laidTests := true, laidLooks := .later }
def ScanCopiedAndMovedUptoCardSaid : Prop := Claim7.holds Tryz.pinned (.plain (OpenSpec.upto scanCopiedAndMovedSpec)) scanCopiedAndMovedUptoCard

/-- THE SECOND FORM's CARD OF 'chancerylaw2.ScanAdjustMatches'. -/
def scanAdjustMatchesUptoCard : Claim7 := { stood := { row := scanAdjustMatchesUptoRow, standIns := [], harness := (true, "03d0adea6168be1b4dc5afc8764b2fa7a2d5dfd2f8b28b9099ea640a7a790638"), looks := true }, kinds := [], alts := [], laidByText := true, laidKinds := [.data, .data, .data, .data, .data, .sentinel, .sentinel, .pinned], laidTests := true, laidLooks := .later }
def ScanAdjustMatchesUptoCardSaid : Prop := Claim7.holds Tryz.pinned (.plain (OpenSpec.upto scanAdjustMatchesSpec)) scanAdjustMatchesUptoCard

/-- THE SECOND FORM's CARD OF 'chancerylaw2.ScanRenames'. -/
def scanRenamesUptoCard : Claim7 := { stood := { row := scanRenamesUptoRow, standIns := [], harness := (true, "03d0adea6168be1b4dc5afc8764b2fa7a2d5dfd2f8b28b9099ea640a7a790638"), looks := true }, kinds := [], alts := [], laidByText := true, laidKinds := [.data, .data, .data, .data, .data, .sentinel, .sentinel, .data, .data, .pinned, .pinned], laidTests := true, laidLooks := .later }
def ScanRenamesUptoCardSaid : Prop := Claim7.holds Tryz.pinned (.plain (OpenSpec.upto scanRenamesSpec)) scanRenamesUptoCard
end Rows
end Go.Proofs.YtmodjglbjempkaaGreatDoor
