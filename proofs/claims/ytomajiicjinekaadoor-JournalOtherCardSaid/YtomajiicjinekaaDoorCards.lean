/-
  DERIVED. GIVEN WITH THE SEED: THE CARDS: each row of YtomajiicjinekaaDoorRows.lean that lists a variable, with what it lists TIED to the program's text (the seventh form; the later family's looks); each row that meets fmt, with fmt's text TOLD by the authors' own Lean function (tested against real Go, not proved from fmt's source: count such statements apart). THE CARD IS WHAT COUNTS. Prove the row's statement (the work); the ties are given (YtomajiicjinekaaDoorTie.lean); close each card by the builder's one call (the guide's Derived/Test/ToyasCard.lean, 'card_holds'). Laid BY PROGRAM, IN A SANDBOX (cutbox-door.mjs). By AI agents, Wed Nov 11 2026. No macro, syntax, notation, axiom, sorry.
-/
import Derived.Test.YtomajiicjinekaaDoorRows
import GoSem.ClaimSeven
namespace Go.Proofs.YtomajiicjinekaaDoor
namespace Rows

/-- THE TIED CARD OF 'pantrylaw8.JournalOther'. -/
def journalOtherCard : Claim7 := { stood := { row := journalOtherRow, standIns := [], harness := (true, "de4df6a7322b2d4a79c22067fc3200175885bcd439d05d10b7abf7a52c257d21"), looks := false }, kinds := [], alts := [], laidByText := true, laidKinds := [.data, .data, .data], laidTests := true, laidLooks := .later }
def JournalOtherCardSaid : Prop := Claim7.holds Tryd.pinned (.plain (OpenSpec.ofChange journalOtherSpec)) journalOtherCard

/-- THE SECOND FORM's CARD OF 'pantrylaw8.JournalOther'. -/
def journalOtherUptoCard : Claim7 := { stood := { row := journalOtherUptoRow, standIns := [], harness := (true, "de4df6a7322b2d4a79c22067fc3200175885bcd439d05d10b7abf7a52c257d21"), looks := false }, kinds := [], alts := [], laidByText := true, laidKinds := [.data, .data, .data], laidTests := true, laidLooks := .later }
def JournalOtherUptoCardSaid : Prop := Claim7.holds Tryd.pinned (.plain (OpenSpec.upto journalOtherSpec)) journalOtherUptoCard
end Rows
end Go.Proofs.YtomajiicjinekaaDoor
