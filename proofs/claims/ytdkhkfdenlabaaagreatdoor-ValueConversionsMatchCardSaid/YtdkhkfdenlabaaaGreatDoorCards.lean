/-
  DERIVED. GIVEN WITH THE SEED: THE CARDS: each row of YtdkhkfdenlabaaaGreatDoorRows.lean that lists a variable, with what it lists TIED to the program's text (the seventh form; the later family's looks); each row that meets fmt, with fmt's text TOLD by the authors' own Lean function (tested against real Go, not proved from fmt's source: count such statements apart). THE CARD IS WHAT COUNTS. Prove the row's statement (the work); the ties are given (YtdkhkfdenlabaaaGreatDoorTie.lean); close each card by the builder's one call (the guide's Derived/Test/ToyasCard.lean, 'card_holds'). Laid BY PROGRAM, IN A SANDBOX (cutbox-door.mjs). By AI agents, Wed Nov 11 2026. No macro, syntax, notation, axiom, sorry.
-/
import Derived.Test.YtdkhkfdenlabaaaGreatDoorRows
import GoSem.ClaimSeven
namespace Go.Proofs.YtdkhkfdenlabaaaGreatDoor
namespace Rows

/-- THE TIED CARD OF 'chancerylaw2.ValueEnterMatches'. -/
def valueEnterMatchesCard : Claim7 := { stood := { row := valueEnterMatchesRow, standIns := [], harness := (true, "148cfa46e0c06ab112d2616c7b31dcf62c1b6c2000089dc0346617a6a76dfe18"), looks := true }, kinds := [], alts := [], laidByText := true, laidKinds := [.data, .data, .data, .data, .data, .sentinel, .sentinel, .data, .pinned], laidTests := true, laidLooks := .later }
def ValueEnterMatchesCardSaid : Prop := Claim7.holds Tryz.pinned (.plain (OpenSpec.ofChange valueEnterMatchesSpec)) valueEnterMatchesCard

/-- THE TIED CARD OF 'chancerylaw2.ValueCheckMatches'. -/
def valueCheckMatchesCard : Claim7 := { stood := { row := valueCheckMatchesRow, standIns := [], harness := (true, "148cfa46e0c06ab112d2616c7b31dcf62c1b6c2000089dc0346617a6a76dfe18"), looks := true }, kinds := [], alts := [], laidByText := true, laidKinds := [.data, .data, .data, .data, .data, .sentinel, .sentinel, .data, .pinned], laidTests := true, laidLooks := .later }
def ValueCheckMatchesCardSaid : Prop := Claim7.holds Tryz.pinned (.plain (OpenSpec.ofChange valueCheckMatchesSpec)) valueCheckMatchesCard

/-- THE TIED CARD OF 'chancerylaw2.ValueCalendarMatches'. -/
def valueCalendarMatchesCard : Claim7 := { stood := { row := valueCalendarMatchesRow, standIns := [], harness := (true, "148cfa46e0c06ab112d2616c7b31dcf62c1b6c2000089dc0346617a6a76dfe18"), looks := true }, kinds := [], alts := [], laidByText := true, laidKinds := [.data, .data, .data, .data, .sentinel, .sentinel, .data, .pinned], laidTests := true, laidLooks := .later }
def ValueCalendarMatchesCardSaid : Prop := Claim7.holds Tryz.pinned (.plain (OpenSpec.ofChange valueCalendarMatchesSpec)) valueCalendarMatchesCard

/-- THE TIED CARD OF 'chancerylaw2.ValueLiftMatches'. -/
def valueLiftMatchesCard : Claim7 := { stood := { row := valueLiftMatchesRow, standIns := [], harness := (true, "148cfa46e0c06ab112d2616c7b31dcf62c1b6c2000089dc0346617a6a76dfe18"), looks := true }, kinds := [], alts := [], laidByText := true, laidKinds := [.data, .data, .data, .data, .data, .sentinel, .sentinel, .data, .pinned], laidTests := true, laidLooks := .later }
def ValueLiftMatchesCardSaid : Prop := Claim7.holds Tryz.pinned (.plain (OpenSpec.ofChange valueLiftMatchesSpec)) valueLiftMatchesCard

/-- THE TIED CARD OF 'chancerylaw2.ValueComparisonsMatch'. -/
def valueComparisonsMatchCard : Claim7 := { stood := { row := valueComparisonsMatchRow, standIns := [], harness := (true, "148cfa46e0c06ab112d2616c7b31dcf62c1b6c2000089dc0346617a6a76dfe18"), looks := true }, kinds := [], alts := [], laidByText := true, laidKinds := [.data, .data, .data, .data, .data, .sentinel, .sentinel, .data, .pinned], laidTests := true, laidLooks := .later }
def ValueComparisonsMatchCardSaid : Prop := Claim7.holds Tryz.pinned (.plain (OpenSpec.ofChange valueComparisonsMatchSpec)) valueComparisonsMatchCard

/-- THE TIED CARD OF 'chancerylaw2.ValueConversionsMatch'. -/
def valueConversionsMatchCard : Claim7 := { stood := { row := valueConversionsMatchRow, standIns := [], harness := (true, "148cfa46e0c06ab112d2616c7b31dcf62c1b6c2000089dc0346617a6a76dfe18"), looks := true }, kinds := [], alts := [], laidByText := true, laidKinds := [.data, .data, .data, .data, .data, .sentinel, .sentinel, .data, .pinned], laidTests := true, laidLooks := .later }
def ValueConversionsMatchCardSaid : Prop := Claim7.holds Tryz.pinned (.plain (OpenSpec.ofChange valueConversionsMatchSpec)) valueConversionsMatchCard

/-- THE SECOND FORM's CARD OF 'chancerylaw2.ValueEnterMatches'. -/
def valueEnterMatchesUptoCard : Claim7 := { stood := { row := valueEnterMatchesUptoRow, standIns := [], harness := (true, "148cfa46e0c06ab112d2616c7b31dcf62c1b6c2000089dc0346617a6a76dfe18"), looks := true }, kinds := [], alts := [], laidByText := true, laidKinds := [.data, .data, .data, .data, .data, .sentinel, .sentinel, .data, .pinned], laidTests := true, laidLooks := .later }
def ValueEnterMatchesUptoCardSaid : Prop := Claim7.holds Tryz.pinned (.plain (OpenSpec.upto valueEnterMatchesSpec)) valueEnterMatchesUptoCard

/-- THE SECOND FORM's CARD OF 'chancerylaw2.ValueCheckMatches'. -/
def valueCheckMatchesUptoCard : Claim7 := { stood := { row := valueCheckMatchesUptoRow, standIns := [], harness := (true, "148cfa46e0c06ab112d2616c7b31dcf62c1b6c2000089dc0346617a6a76dfe18"), looks := true }, kinds := [], alts := [], laidByText := true, laidKinds := [.data, .data, .data, .data, .data, .sentinel, .sentinel, .data, .pinned], laidTests := true, laidLooks := .later }
def ValueCheckMatchesUptoCardSaid : Prop := Claim7.holds Tryz.pinned (.plain (OpenSpec.upto valueCheckMatchesSpec)) valueCheckMatchesUptoCard

/-- THE SECOND FORM's CARD OF 'chancerylaw2.ValueCalendarMatches'. -/
def valueCalendarMatchesUptoCard : Claim7 := { stood := { row := valueCalendarMatchesUptoRow, standIns := [], harness := (true, "148cfa46e0c06ab112d2616c7b31dcf62c1b6c2000089dc0346617a6a76dfe18"), looks := true }, kinds := [], alts := [], laidByText := true, laidKinds := [.data, .data, .data, .data, .sentinel, .sentinel, .data, .pinned], laidTests := true, laidLooks := .later }
def ValueCalendarMatchesUptoCardSaid : Prop := Claim7.holds Tryz.pinned (.plain (OpenSpec.upto valueCalendarMatchesSpec)) valueCalendarMatchesUptoCard

/-- THE SECOND FORM's CARD OF 'chancerylaw2.ValueLiftMatches'. -/
def valueLiftMatchesUptoCard : Claim7 := { stood := { row := valueLiftMatchesUptoRow, standIns := [], harness := (true, "148cfa46e0c06ab112d2616c7b31dcf62c1b6c2000089dc0346617a6a76dfe18"), looks := true }, kinds := [], alts := [], laidByText := true, laidKinds := [.data, .data, .data, .data, .data, .sentinel, .sentinel, .data, .pinned], laidTests := true, laidLooks := .later }
def ValueLiftMatchesUptoCardSaid : Prop := Claim7.holds Tryz.pinned (.plain (OpenSpec.upto valueLiftMatchesSpec)) valueLiftMatchesUptoCard

/-- THE SECOND FORM's CARD OF 'chancerylaw2.ValueComparisonsMatch'. -/
def valueComparisonsMatchUptoCard : Claim7 := { stood := { row := valueComparisonsMatchUptoRow, standIns := [], harness := (true, "148cfa46e0c06ab112d2616c7b31dcf62c1b6c2000089dc0346617a6a76dfe18"), looks := true }, kinds := [], alts := [], laidByText := true, laidKinds := [.data, .data, .data, .data, .data, .sentinel, .sentinel, .data, .pinned], laidTests := true, laidLooks := .later }
def ValueComparisonsMatchUptoCardSaid : Prop := Claim7.holds Tryz.pinned (.plain (OpenSpec.upto valueComparisonsMatchSpec)) valueComparisonsMatchUptoCard

/-- THE SECOND FORM's CARD OF 'chancerylaw2.ValueConversionsMatch'. -/
def valueConversionsMatchUptoCard : Claim7 := { stood := { row := valueConversionsMatchUptoRow, standIns := [], harness := (true, "148cfa46e0c06ab112d2616c7b31dcf62c1b6c2000089dc0346617a6a76dfe18"), looks := true }, kinds := [], alts := [], laidByText := true, laidKinds := [.data, .data, .data, .data, .data, .sentinel, .sentinel, .data, .pinned], laidTests := true, laidLooks := .later }
def ValueConversionsMatchUptoCardSaid : Prop := Claim7.holds Tryz.pinned (.plain (OpenSpec.upto valueConversionsMatchSpec)) valueConversionsMatchUptoCard
end Rows
end Go.Proofs.YtdkhkfdenlabaaaGreatDoor
