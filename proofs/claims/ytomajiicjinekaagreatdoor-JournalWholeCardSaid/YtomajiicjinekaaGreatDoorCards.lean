/-
  DERIVED. GIVEN WITH THE SEED: THE CARDS: each row of YtomajiicjinekaaGreatDoorRows.lean that lists a variable, with what it lists TIED to the program's text (the seventh form; the later family's looks); each row that meets fmt, with fmt's text TOLD by the authors' own Lean function (tested against real Go, not proved from fmt's source: count such statements apart). THE CARD IS WHAT COUNTS. Prove the row's statement (the work); the ties are given (YtomajiicjinekaaGreatDoorTie.lean); close each card by the builder's one call (the guide's Derived/Test/ToyasCard.lean, 'card_holds'). Laid BY PROGRAM, IN A SANDBOX (cutbox-door.mjs). By AI agents, Wed Nov 11 2026. No macro, syntax, notation, axiom, sorry.
-/
import Derived.Test.YtomajiicjinekaaGreatDoorRows
import GoSem.ClaimSeven
namespace Go.Proofs.YtomajiicjinekaaGreatDoor
namespace Rows

/-- THE TIED CARD OF 'pantrylaw8.JournalPlays'. -/
def journalPlaysCard : Claim7 := { stood := { row := journalPlaysRow, standIns := [], harness := (true, "977d215e86fb9408077f2dbeaf3a1bea85ca5a5894d8e6e3efd3f1765f63237c"), looks := false }, kinds := [], alts := [], laidByText := true, laidKinds := [.data, .data, .data], laidTests := true, laidLooks := .later }
def JournalPlaysCardSaid : Prop := Claim7.holds Tryz.pinned (.plain (OpenSpec.ofChange journalPlaysSpec)) journalPlaysCard

/-- THE TIED CARD OF 'pantrylaw8.JournalWhole'. -/
def journalWholeCard : Claim7 := { stood := { row := journalWholeRow, standIns := [], harness := (true, "977d215e86fb9408077f2dbeaf3a1bea85ca5a5894d8e6e3efd3f1765f63237c"), looks := false }, kinds := [], alts := [], laidByText := true, laidKinds := [.data, .data, .data], laidTests := true, laidLooks := .later }
def JournalWholeCardSaid : Prop := Claim7.holds Tryz.pinned (.plain (OpenSpec.ofChange journalWholeSpec)) journalWholeCard

/-- THE TIED CARD OF 'pantrylaw8.JournalDead'. -/
def journalDeadCard : Claim7 := { stood := { row := journalDeadRow, standIns := [], harness := (true, "977d215e86fb9408077f2dbeaf3a1bea85ca5a5894d8e6e3efd3f1765f63237c"), looks := false }, kinds := [], alts := [], laidByText := true, laidKinds := [.data, .data, .data], laidTests := true, laidLooks := .later }
def JournalDeadCardSaid : Prop := Claim7.holds Tryz.pinned (.plain (OpenSpec.ofChange journalDeadSpec)) journalDeadCard

/-- THE TIED CARD OF 'pantrylaw8.JournalOfNothing'. -/
def journalOfNothingCard : Claim7 := { stood := { row := journalOfNothingRow, standIns := [], harness := (true, "977d215e86fb9408077f2dbeaf3a1bea85ca5a5894d8e6e3efd3f1765f63237c"), looks := false }, kinds := [], alts := [], laidByText := true, laidKinds := [.data, .data, .data], laidTests := true, laidLooks := .later }
def JournalOfNothingCardSaid : Prop := Claim7.holds Tryz.pinned (.plain (OpenSpec.ofChange journalOfNothingSpec)) journalOfNothingCard

/-- THE SECOND FORM's CARD OF 'pantrylaw8.JournalPlays'. -/
def journalPlaysUptoCard : Claim7 := { stood := { row := journalPlaysUptoRow, standIns := [], harness := (true, "977d215e86fb9408077f2dbeaf3a1bea85ca5a5894d8e6e3efd3f1765f63237c"), looks := false }, kinds := [], alts := [], laidByText := true, laidKinds := [.data, .data, .data], laidTests := true, laidLooks := .later }
def JournalPlaysUptoCardSaid : Prop := Claim7.holds Tryz.pinned (.plain (OpenSpec.upto journalPlaysSpec)) journalPlaysUptoCard

/-- THE SECOND FORM's CARD OF 'pantrylaw8.JournalWhole'. -/
def journalWholeUptoCard : Claim7 := { stood := { row := journalWholeUptoRow, standIns := [], harness := (true, "977d215e86fb9408077f2dbeaf3a1bea85ca5a5894d8e6e3efd3f1765f63237c"), looks := false }, kinds := [], alts := [], laidByText := true, laidKinds := [.data, .data, .data], laidTests := true, laidLooks := .later }
def JournalWholeUptoCardSaid : Prop := Claim7.holds Tryz.pinned (.plain (OpenSpec.upto journalWholeSpec)) journalWholeUptoCard

/-- THE SECOND FORM's CARD OF 'pantrylaw8.JournalDead'. -/
def journalDeadUptoCard : Claim7 := { stood := { row := journalDeadUptoRow, standIns := [], harness := (true, "977d215e86fb9408077f2dbeaf3a1bea85ca5a5894d8e6e3efd3f1765f63237c"), looks := false }, kinds := [], alts := [], laidByText := true, laidKinds := [.data, .data, .data], laidTests := true, laidLooks := .later }
def JournalDeadUptoCardSaid : Prop := Claim7.holds Tryz.pinned (.plain (OpenSpec.upto journalDeadSpec)) journalDeadUptoCard

/-- THE SECOND FORM's CARD OF 'pantrylaw8.JournalOfNothing'. -/
def journalOfNothingUptoCard : Claim7 := { stood := { row := journalOfNothingUptoRow, standIns := [], harness := (true, "977d215e86fb9408077f2dbeaf3a1bea85ca5a5894d8e6e3efd3f1765f63237c"), looks := false }, kinds := [], alts := [], laidByText := true, laidKinds := [.data, .data, .data], laidTests := true, laidLooks := .later }
def JournalOfNothingUptoCardSaid : Prop := Claim7.holds Tryz.pinned (.plain (OpenSpec.upto journalOfNothingSpec)) journalOfNothingUptoCard
end Rows
end Go.Proofs.YtomajiicjinekaaGreatDoor
