/-
  DERIVED. GIVEN WITH THE SEED: THE CARDS: each row of YtlojipipibebaaaDoorRows.lean that lists a variable, with what it lists TIED to the program's text (the seventh form; the later family's looks); each row that meets fmt, with fmt's text TOLD by the authors' own Lean function (tested against real Go, not proved from fmt's source: count such statements apart). THE CARD IS WHAT COUNTS. Prove the row's statement (the work); the ties are given (YtlojipipibebaaaDoorTie.lean); close each card by the builder's one call (the guide's Derived/Test/ToyasCard.lean, 'card_holds'). Laid BY PROGRAM, IN A SANDBOX (cutbox-door.mjs). By AI agents, Wed Nov 11 2026. No macro, syntax, notation, axiom, sorry.
-/
import Derived.Test.YtlojipipibebaaaDoorRows
import GoSem.ClaimSeven
namespace Go.Proofs.YtlojipipibebaaaDoor
namespace Rows

/-- THE TIED CARD OF 'quincunxlaw28.ParserPrints'. -/
def parserPrintsCard : Claim7 := { stood := { row := parserPrintsRow, standIns := [], harness := (true, "68323f0be2614adb7e7e3d1121ba63e5dffb3e7d0667e70a3db35ed736ee3642"), looks := false }, kinds := [], alts := [], laidByText := true, laidKinds := [.data, .data], laidTests := true, laidLooks := .later }
def ParserPrintsCardSaid : Prop := Claim7.holds Tryd.pinned (.plain (OpenSpec.ofChange parserPrintsSpec)) parserPrintsCard

/-- THE TIED CARD OF 'quincunxlaw28.ParserBack'. -/
def parserBackCard : Claim7 := { stood := { row := parserBackRow, standIns := [], harness := (true, "68323f0be2614adb7e7e3d1121ba63e5dffb3e7d0667e70a3db35ed736ee3642"), looks := false }, kinds := [], alts := [], laidByText := true, laidKinds := [.data, .data], laidTests := true, laidLooks := .later }
def ParserBackCardSaid : Prop := Claim7.holds Tryd.pinned (.plain (OpenSpec.ofChange parserBackSpec)) parserBackCard

/-- THE SECOND FORM's CARD OF 'quincunxlaw28.ParserPrints'. -/
def parserPrintsUptoCard : Claim7 := { stood := { row := parserPrintsUptoRow, standIns := [], harness := (true, "68323f0be2614adb7e7e3d1121ba63e5dffb3e7d0667e70a3db35ed736ee3642"), looks := false }, kinds := [], alts := [], laidByText := true, laidKinds := [.data, .data], laidTests := true, laidLooks := .later }
def ParserPrintsUptoCardSaid : Prop := Claim7.holds Tryd.pinned (.plain (OpenSpec.upto parserPrintsSpec)) parserPrintsUptoCard

/-- THE SECOND FORM's CARD OF 'quincunxlaw28.ParserBack'. -/
def parserBackUptoCard : Claim7 := { stood := { row := parserBackUptoRow, standIns := [], harness := (true, "68323f0be2614adb7e7e3d1121ba63e5dffb3e7d0667e70a3db35ed736ee3642"), looks := false }, kinds := [], alts := [], laidByText := true, laidKinds := [.data, .data], laidTests := true, laidLooks := .later }
def ParserBackUptoCardSaid : Prop := Claim7.holds Tryd.pinned (.plain (OpenSpec.upto parserBackSpec)) parserBackUptoCard
end Rows
end Go.Proofs.YtlojipipibebaaaDoor
