/-
  DERIVED. GIVEN WITH THE SEED: THE CARDS: each row of YtfebkkmmagbnlaaGreatDoorRows.lean that lists a variable, with what it lists TIED to the program's text (the seventh form; the later family's looks); each row that meets fmt, with fmt's text TOLD by the authors' own Lean function (tested against real Go, not proved from fmt's source: count such statements apart). THE CARD IS WHAT COUNTS. Prove the row's statement (the work); the ties are given (YtfebkkmmagbnlaaGreatDoorTie.lean); close each card by the builder's one call (the guide's Derived/Test/ToyasCard.lean, 'card_holds'). Laid BY PROGRAM, IN A SANDBOX (cutbox-door.mjs). By AI agents, Wed Nov 11 2026. No macro, syntax, notation, axiom, sorry.
-/
import Derived.Test.YtfebkkmmagbnlaaGreatDoorRows
import GoSem.ClaimSeven
namespace Go.Proofs.YtfebkkmmagbnlaaGreatDoor
namespace Rows

/-- THE TIED CARD OF 'pantrylaw9.PagesReuse'. -/
def pagesReuseCard : Claim7 := { stood := { row := pagesReuseRow, standIns := [], harness := (true, "d6940ffa9aee17afc6c360ec4500667c41cf8441dfa5587ac010659349e4d1ff"), looks := false }, kinds := [], alts := [], laidByText := true, laidKinds := [.data, .data, .data], laidTests := true, laidLooks := .later }
def PagesReuseCardSaid : Prop := Claim7.holds Tryz.pinned (.plain (OpenSpec.ofChange pagesReuseSpec)) pagesReuseCard

/-- THE TIED CARD OF 'pantrylaw9.PagesDead'. -/
def pagesDeadCard : Claim7 := { stood := { row := pagesDeadRow, standIns := [], harness := (true, "d6940ffa9aee17afc6c360ec4500667c41cf8441dfa5587ac010659349e4d1ff"), looks := false }, kinds := [], alts := [], laidByText := true, laidKinds := [.data, .data, .data], laidTests := true, laidLooks := .later }
def PagesDeadCardSaid : Prop := Claim7.holds Tryz.pinned (.plain (OpenSpec.ofChange pagesDeadSpec)) pagesDeadCard

/-- THE TIED CARD OF 'pantrylaw9.PagesOfNothing'. -/
def pagesOfNothingCard : Claim7 := { stood := { row := pagesOfNothingRow, standIns := [], harness := (true, "d6940ffa9aee17afc6c360ec4500667c41cf8441dfa5587ac010659349e4d1ff"), looks := false }, kinds := [], alts := [], laidByText := true, laidKinds := [.data, .data, .data], laidTests := true, laidLooks := .later }
def PagesOfNothingCardSaid : Prop := Claim7.holds Tryz.pinned (.plain (OpenSpec.ofChange pagesOfNothingSpec)) pagesOfNothingCard

/-- THE TIED CARD OF 'pantrylaw9.PagesPlays'. -/
def pagesPlaysCard : Claim7 := { stood := { row := pagesPlaysRow, standIns := [], harness := (true, "d6940ffa9aee17afc6c360ec4500667c41cf8441dfa5587ac010659349e4d1ff"), looks := false }, kinds := [], alts := [], laidByText := true, laidKinds := [.data, .data, .data], laidTests := true, laidLooks := .later }
def PagesPlaysCardSaid : Prop := Claim7.holds Tryz.pinned (.plain (OpenSpec.ofChange pagesPlaysSpec)) pagesPlaysCard

/-- THE TIED CARD OF 'pantrylaw9.PagesWhole'. -/
def pagesWholeCard : Claim7 := { stood := { row := pagesWholeRow, standIns := [], harness := (true, "d6940ffa9aee17afc6c360ec4500667c41cf8441dfa5587ac010659349e4d1ff"), looks := false }, kinds := [], alts := [], laidByText := true, laidKinds := [.data, .data, .data], laidTests := true, laidLooks := .later }
def PagesWholeCardSaid : Prop := Claim7.holds Tryz.pinned (.plain (OpenSpec.ofChange pagesWholeSpec)) pagesWholeCard

/-- THE SECOND FORM's CARD OF 'pantrylaw9.PagesReuse'. -/
def pagesReuseUptoCard : Claim7 := { stood := { row := pagesReuseUptoRow, standIns := [], harness := (true, "d6940ffa9aee17afc6c360ec4500667c41cf8441dfa5587ac010659349e4d1ff"), looks := false }, kinds := [], alts := [], laidByText := true, laidKinds := [.data, .data, .data], laidTests := true, laidLooks := .later }
def PagesReuseUptoCardSaid : Prop := Claim7.holds Tryz.pinned (.plain (OpenSpec.upto pagesReuseSpec)) pagesReuseUptoCard

/-- THE SECOND FORM's CARD OF 'pantrylaw9.PagesDead'. -/
def pagesDeadUptoCard : Claim7 := { stood := { row := pagesDeadUptoRow, standIns := [], harness := (true, "d6940ffa9aee17afc6c360ec4500667c41cf8441dfa5587ac010659349e4d1ff"), looks := false }, kinds := [], alts := [], laidByText := true, laidKinds := [.data, .data, .data], laidTests := true, laidLooks := .later }
def PagesDeadUptoCardSaid : Prop := Claim7.holds Tryz.pinned (.plain (OpenSpec.upto pagesDeadSpec)) pagesDeadUptoCard

/-- THE SECOND FORM's CARD OF 'pantrylaw9.PagesOfNothing'. -/
def pagesOfNothingUptoCard : Claim7 := { stood := { row := pagesOfNothingUptoRow, standIns := [], harness := (true, "d6940ffa9aee17afc6c360ec4500667c41cf8441dfa5587ac010659349e4d1ff"), looks := false }, kinds := [], alts := [], laidByText := true, laidKinds := [.data, .data, .data], laidTests := true, laidLooks := .later }
def PagesOfNothingUptoCardSaid : Prop := Claim7.holds Tryz.pinned (.plain (OpenSpec.upto pagesOfNothingSpec)) pagesOfNothingUptoCard

/-- THE SECOND FORM's CARD OF 'pantrylaw9.PagesPlays'. -/
def pagesPlaysUptoCard : Claim7 := { stood := { row := pagesPlaysUptoRow, standIns := [], harness := (true, "d6940ffa9aee17afc6c360ec4500667c41cf8441dfa5587ac010659349e4d1ff"), looks := false }, kinds := [], alts := [], laidByText := true, laidKinds := [.data, .data, .data], laidTests := true, laidLooks := .later }
def PagesPlaysUptoCardSaid : Prop := Claim7.holds Tryz.pinned (.plain (OpenSpec.upto pagesPlaysSpec)) pagesPlaysUptoCard

/-- THE SECOND FORM's CARD OF 'pantrylaw9.PagesWhole'. -/
def pagesWholeUptoCard : Claim7 := { stood := { row := pagesWholeUptoRow, standIns := [], harness := (true, "d6940ffa9aee17afc6c360ec4500667c41cf8441dfa5587ac010659349e4d1ff"), looks := false }, kinds := [], alts := [], laidByText := true, laidKinds := [.data, .data, .data], laidTests := true, laidLooks := .later }
def PagesWholeUptoCardSaid : Prop := Claim7.holds Tryz.pinned (.plain (OpenSpec.upto pagesWholeSpec)) pagesWholeUptoCard
end Rows
end Go.Proofs.YtfebkkmmagbnlaaGreatDoor
