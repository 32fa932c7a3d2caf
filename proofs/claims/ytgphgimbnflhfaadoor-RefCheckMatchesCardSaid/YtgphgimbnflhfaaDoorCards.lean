/-
  DERIVED. GIVEN WITH THE SEED: THE CARDS: each row of YtgphgimbnflhfaaDoorRows.lean that lists a variable, with what it lists TIED to the program's text (the seventh form; the later family's looks); each row that meets fmt, with fmt's text TOLD by the authors' own Lean function (tested against real Go, not proved from fmt's source: count such statements apart). THE CARD IS WHAT COUNTS. Prove the row's statement (the work); the ties are given (YtgphgimbnflhfaaDoorTie.lean); close each card by the builder's one call (the guide's Derived/Test/ToyasCard.lean, 'card_holds'). Laid BY PROGRAM, IN A SANDBOX (cutbox-door.mjs). By AI agents, Wed Nov 11 2026. No macro, syntax, notation, axiom, sorry.
-/
import Derived.Test.YtgphgimbnflhfaaDoorRows
import GoSem.ClaimSeven
namespace Go.Proofs.YtgphgimbnflhfaaDoor
namespace Rows

/-- THE TIED CARD OF 'chancerylaw2.RefColumnLetters'. -/
def refColumnLettersCard : Claim7 := { stood := { row := refColumnLettersRow, standIns := [], harness := (true, "9f08313464b31e0165d5955a38f49b6d2cf19b79fd1a63af5e2925d8ed1db13a"), looks := true }, kinds := [], alts := [], laidByText := true, laidKinds := [.data, .data, .data, .sentinel, .sentinel], laidTests := true, laidLooks := .later }
def RefColumnLettersCardSaid : Prop := Claim7.holds Tryd.pinned (.plain (OpenSpec.ofChange refColumnLettersSpec)) refColumnLettersCard

/-- THE TIED CARD OF 'chancerylaw2.RefParseMatches'. -/
def refParseMatchesCard : Claim7 := { stood := { row := refParseMatchesRow, standIns := [], harness := (true, "9f08313464b31e0165d5955a38f49b6d2cf19b79fd1a63af5e2925d8ed1db13a"), looks := true }, kinds := [], alts := [], laidByText := true, laidKinds := [.data, .data, .data, .sentinel, .sentinel], laidTests := true, laidLooks := .later }
def RefParseMatchesCardSaid : Prop := Claim7.holds Tryd.pinned (.plain (OpenSpec.ofChange refParseMatchesSpec)) refParseMatchesCard

/-- THE TIED CARD OF 'chancerylaw2.RefCopiedAndMoved'. -/
def refCopiedAndMovedCard : Claim7 := { stood := { row := refCopiedAndMovedRow, standIns := [], harness := (true, "9f08313464b31e0165d5955a38f49b6d2cf19b79fd1a63af5e2925d8ed1db13a"), looks := true }, kinds := [], alts := [], laidByText := true, laidKinds := [.data, .data, .data, .sentinel, .sentinel], laidTests := true, laidLooks := .later }
def RefCopiedAndMovedCardSaid : Prop := Claim7.holds Tryd.pinned (.plain (OpenSpec.ofChange refCopiedAndMovedSpec)) refCopiedAndMovedCard

/-- THE TIED CARD OF 'chancerylaw2.RefThroughMatches'. -/
def refThroughMatchesCard : Claim7 := { stood := { row := refThroughMatchesRow, standIns := [], harness := (true, "9f08313464b31e0165d5955a38f49b6d2cf19b79fd1a63af5e2925d8ed1db13a"), looks := true }, kinds := [], alts := [], laidByText := true, laidKinds := [.data, .data, .data, .sentinel, .sentinel], laidTests := true, laidLooks := .later }
def RefThroughMatchesCardSaid : Prop := Claim7.holds Tryd.pinned (.plain (OpenSpec.ofChange refThroughMatchesSpec)) refThroughMatchesCard

/-- THE TIED CARD OF 'chancerylaw2.RefCheckMatches'. -/
def refCheckMatchesCard : Claim7 := { stood := { row := refCheckMatchesRow, standIns := [], harness := (true, "9f08313464b31e0165d5955a38f49b6d2cf19b79fd1a63af5e2925d8ed1db13a"), looks := true }, kinds := [], alts := [], laidByText := true, laidKinds := [.data, .data, .data, .data, .sentinel, .sentinel, .pinned], laidTests := true, laidLooks := .later }
def RefCheckMatchesCardSaid : Prop := Claim7.holds Tryd.pinned (.plain (OpenSpec.ofChange refCheckMatchesSpec)) refCheckMatchesCard

/-- THE SECOND FORM's CARD OF 'chancerylaw2.RefColumnLetters'. -/
def refColumnLettersUptoCard : Claim7 := { stood := { row := refColumnLettersUptoRow, standIns := [], harness := (true, "9f08313464b31e0165d5955a38f49b6d2cf19b79fd1a63af5e2925d8ed1db13a"), looks := true }, kinds := [], alts := [], laidByText := true, laidKinds := [.data, .data, .data, .sentinel, .sentinel], laidTests := true, laidLooks := .later }
def RefColumnLettersUptoCardSaid : Prop := Claim7.holds Tryd.pinned (.plain (OpenSpec.upto refColumnLettersSpec)) refColumnLettersUptoCard

/-- THE SECOND FORM's CARD OF 'chancerylaw2.RefParseMatches'. -/
def refParseMatchesUptoCard : Claim7 := { stood := { row := refParseMatchesUptoRow, standIns := [], harness := (true, "9f08313464b31e0165d5955a38f49b6d2cf19b79fd1a63af5e2925d8ed1db13a"), looks := true }, kinds := [], alts := [], laidByText := true, laidKinds := [.data, .data, .data, .sentinel, .sentinel], laidTests := true, laidLooks := .later }
def RefParseMatchesUptoCardSaid : Prop := Claim7.holds Tryd.pinned (.plain (OpenSpec.upto refParseMatchesSpec)) refParseMatchesUptoCard

/-- THE SECOND FORM's CARD OF 'chancerylaw2.RefCopiedAndMoved'. -/
def refCopiedAndMovedUptoCard : Claim7 := { stood := { row := refCopiedAndMovedUptoRow, standIns := [], harness := (true, "9f08313464b31e0165d5955a38f49b6d2cf19b79fd1a63af5e2925d8ed1db13a"), looks := true }, kinds := [], alts := [], laidByText := true, laidKinds := [.data, .data, .data, .sentinel, .sentinel], laidTests := true, laidLooks := .later }
def RefCopiedAndMovedUptoCardSaid : Prop := Claim7.holds Tryd.pinned (.plain (OpenSpec.upto refCopiedAndMovedSpec)) refCopiedAndMovedUptoCard

/-- THE SECOND FORM's CARD OF 'chancerylaw2.RefThroughMatches'. -/
def refThroughMatchesUptoCard : Claim7 := { stood := { row := refThroughMatchesUptoRow, standIns := [], harness := (true, "9f08313464b31e0165d5955a38f49b6d2cf19b79fd1a63af5e2925d8ed1db13a"), looks := true }, kinds := [], alts := [], laidByText := true, laidKinds := [.data, .data, .data, .sentinel, .sentinel], laidTests := true, laidLooks := .later }
def RefThroughMatchesUptoCardSaid : Prop := Claim7.holds Tryd.pinned (.plain (OpenSpec.upto refThroughMatchesSpec)) refThroughMatchesUptoCard

/-- THE SECOND FORM's CARD OF 'chancerylaw2.RefCheckMatches'. -/
def refCheckMatchesUptoCard : Claim7 := { stood := { row := refCheckMatchesUptoRow, standIns := [], harness := (true, "9f08313464b31e0165d5955a38f49b6d2cf19b79fd1a63af5e2925d8ed1db13a"), looks := true }, kinds := [], alts := [], laidByText := true, laidKinds := [.data, .data, .data, .data, .sentinel, .sentinel, .pinned], laidTests := true, laidLooks := .later }
def RefCheckMatchesUptoCardSaid : Prop := Claim7.holds Tryd.pinned (.plain (OpenSpec.upto refCheckMatchesSpec)) refCheckMatchesUptoCard
end Rows
end Go.Proofs.YtgphgimbnflhfaaDoor
