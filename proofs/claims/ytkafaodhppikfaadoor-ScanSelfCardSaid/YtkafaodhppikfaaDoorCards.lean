/-
  DERIVED. GIVEN WITH THE SEED: THE CARDS: each row of YtkafaodhppikfaaDoorRows.lean that lists a variable, with what it lists TIED to the program's text (the seventh form; the later family's looks); each row that meets fmt, with fmt's text TOLD by the authors' own Lean function (tested against real Go, not proved from fmt's source: count such statements apart). THE CARD IS WHAT COUNTS. Prove the row's statement (the work); the ties are given (YtkafaodhppikfaaDoorTie.lean); close each card by the builder's one call (the guide's Derived/Test/ToyasCard.lean, 'card_holds'). Laid BY PROGRAM, IN A SANDBOX (cutbox-door.mjs). By AI agents, Wed Nov 11 2026. No macro, syntax, notation, axiom, sorry.
-/
import Derived.Test.YtkafaodhppikfaaDoorRows
import GoSem.ClaimSeven
namespace Go.Proofs.YtkafaodhppikfaaDoor
namespace Rows

/-- THE TIED CARD OF 'pantrylaw6.ScanModulos'. -/
def scanModulosCard : Claim7 := { stood := { row := scanModulosRow, standIns := [], harness := (true, "2418ec2ca608219da9ba33dc3eb977f097a8fc8072551c3f64c5a82e41bec299"), looks := false }, kinds := [], alts := [], laidByText := true, laidKinds := [.data, .data, .data], laidTests := true, laidLooks := .later }
def ScanModulosCardSaid : Prop := Claim7.holds Tryd.pinned (.plain (OpenSpec.ofChange scanModulosSpec)) scanModulosCard

/-- THE TIED CARD OF 'pantrylaw6.ScanSelf'. -/
def scanSelfCard : Claim7 := { stood := { row := scanSelfRow, standIns := [], harness := (true, "2418ec2ca608219da9ba33dc3eb977f097a8fc8072551c3f64c5a82e41bec299"), looks := false }, kinds := [], alts := [], laidByText := true, laidKinds := [.data, .data, .data], laidTests := true, laidLooks := .later }
def ScanSelfCardSaid : Prop := Claim7.holds Tryd.pinned (.plain (OpenSpec.ofChange scanSelfSpec)) scanSelfCard

/-- THE SECOND FORM's CARD OF 'pantrylaw6.ScanModulos'. -/
def scanModulosUptoCard : Claim7 := { stood := { row := scanModulosUptoRow, standIns := [], harness := (true, "2418ec2ca608219da9ba33dc3eb977f097a8fc8072551c3f64c5a82e41bec299"), looks := false }, kinds := [], alts := [], laidByText := true, laidKinds := [.data, .data, .data], laidTests := true, laidLooks := .later }
def ScanModulosUptoCardSaid : Prop := Claim7.holds Tryd.pinned (.plain (OpenSpec.upto scanModulosSpec)) scanModulosUptoCard

/-- THE SECOND FORM's CARD OF 'pantrylaw6.ScanSelf'. -/
def scanSelfUptoCard : Claim7 := { stood := { row := scanSelfUptoRow, standIns := [], harness := (true, "2418ec2ca608219da9ba33dc3eb977f097a8fc8072551c3f64c5a82e41bec299"), looks := false }, kinds := [], alts := [], laidByText := true, laidKinds := [.data, .data, .data], laidTests := true, laidLooks := .later }
def ScanSelfUptoCardSaid : Prop := Claim7.holds Tryd.pinned (.plain (OpenSpec.upto scanSelfSpec)) scanSelfUptoCard
end Rows
end Go.Proofs.YtkafaodhppikfaaDoor
