/-
  DERIVED. GIVEN WITH THE SEED: THE CARDS: each row of YtegehclknhmkgaaGreatDoorRows.lean that lists a variable, with what it lists TIED to the program's text (the seventh form; the later family's looks); each row that meets fmt, with fmt's text TOLD by the authors' own Lean function (tested against real Go, not proved from fmt's source: count such statements apart). THE CARD IS WHAT COUNTS. Prove the row's statement (the work); the ties are given (YtegehclknhmkgaaGreatDoorTie.lean); close each card by the builder's one call (the guide's Derived/Test/ToyasCard.lean, 'card_holds'). Laid BY PROGRAM, IN A SANDBOX (cutbox-door.mjs). By AI agents, Wed Nov 11 2026. No macro, syntax, notation, axiom, sorry.
-/
import Derived.Test.YtegehclknhmkgaaGreatDoorRows
import GoSem.ClaimSeven
namespace Go.Proofs.YtegehclknhmkgaaGreatDoor
namespace Rows

/-- THE TIED CARD OF 'quincunxlaw30.RunLoops'. -/
def runLoopsCard : Claim7 := { stood := { row := runLoopsRow, standIns := [], harness := (true, "792df2e53008fdc3cc23e9bd3609be73625b93f78c030ca1cfecf09170f4a08a"), looks := true }, kinds := [], alts := [], laidByText := true, laidKinds := [.data, .pinned], laidTests := true, laidLooks := .later }
def RunLoopsCardSaid : Prop := Claim7.holds Tryz.pinned (.plain (OpenSpec.ofChange runLoopsSpec)) runLoopsCard

/-- THE TIED CARD OF 'quincunxlaw30.RunShows'. -/
def runShowsCard : Claim7 := { stood := { row := runShowsRow, standIns := [], harness := (true, "792df2e53008fdc3cc23e9bd3609be73625b93f78c030ca1cfecf09170f4a08a"), looks := true }, kinds := [], alts := [], laidByText := true, laidKinds := [.data, .pinned], laidTests := true, laidLooks := .later }
def RunShowsCardSaid : Prop := Claim7.holds Tryz.pinned (.plain (OpenSpec.ofChange runShowsSpec)) runShowsCard

/-- THE SECOND FORM's CARD OF 'quincunxlaw30.RunLoops'. -/
def runLoopsUptoCard : Claim7 := { stood := { row := runLoopsUptoRow, standIns := [], harness := (true, "792df2e53008fdc3cc23e9bd3609be73625b93f78c030ca1cfecf09170f4a08a"), looks := true }, kinds := [], alts := [], laidByText := true, laidKinds := [.data, .pinned], laidTests := true, laidLooks := .later }
def RunLoopsUptoCardSaid : Prop := Claim7.holds Tryz.pinned (.plain (OpenSpec.upto runLoopsSpec)) runLoopsUptoCard

/-- THE SECOND FORM's CARD OF 'quincunxlaw30.RunShows'. -/
def runShowsUptoCard : Claim7 := { stood := { row := runShowsUptoRow, standIns := [], harness := (true, "792df2e53008fdc3cc23e9bd3609be73625b93f78c030ca1cfecf09170f4a08a"), looks := true }, kinds := [], alts := [], laidByText := true, laidKinds := [.data, .pinned], laidTests := true, laidLooks := .later }
def RunShowsUptoCardSaid : Prop := Claim7.holds Tryz.pinned (.plain (OpenSpec.upto runShowsSpec)) runShowsUptoCard
end Rows
end Go.Proofs.YtegehclknhmkgaaGreatDoor
