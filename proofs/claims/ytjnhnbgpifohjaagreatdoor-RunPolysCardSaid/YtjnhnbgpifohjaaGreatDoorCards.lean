/-
  DERIVED. GIVEN WITH THE SEED: THE CARDS: each row of YtjnhnbgpifohjaaGreatDoorRows.lean that lists a variable, with what it lists TIED to the program's text (the seventh form; the later family's looks); each row that meets fmt, with fmt's text TOLD by the authors' own Lean function (tested against real Go, not proved from fmt's source: count such statements apart). THE CARD IS WHAT COUNTS. Prove the row's statement (the work); the ties are given (YtjnhnbgpifohjaaGreatDoorTie.lean); close each card by the builder's one call (the guide's Derived/Test/ToyasCard.lean, 'card_holds'). Laid BY PROGRAM, IN A SANDBOX (cutbox-door.mjs). By AI agents, Wed Nov 11 2026. No macro, syntax, notation, axiom, sorry.
-/
import Derived.Test.YtjnhnbgpifohjaaGreatDoorRows
import GoSem.ClaimSeven
namespace Go.Proofs.YtjnhnbgpifohjaaGreatDoor
namespace Rows

/-- THE TIED CARD OF 'quincunxlaw30.RunFractions'. -/
def runFractionsCard : Claim7 := { stood := { row := runFractionsRow, standIns := [], harness := (true, "a48c1a45b1604189c91345f8dbd26699c0da77ff5fba637e95e526eabbd13f48"), looks := true }, kinds := [], alts := [], laidByText := true, laidKinds := [.data, .pinned], laidTests := true, laidLooks := .later }
def RunFractionsCardSaid : Prop := Claim7.holds Tryz.pinned (.plain (OpenSpec.ofChange runFractionsSpec)) runFractionsCard

/-- THE TIED CARD OF 'quincunxlaw30.RunPolys'. -/
def runPolysCard : Claim7 := { stood := { row := runPolysRow, standIns := [], harness := (true, "a48c1a45b1604189c91345f8dbd26699c0da77ff5fba637e95e526eabbd13f48"), looks := true }, kinds := [], alts := [], laidByText := true, laidKinds := [.data, .pinned], laidTests := true, laidLooks := .later }
def RunPolysCardSaid : Prop := Claim7.holds Tryz.pinned (.plain (OpenSpec.ofChange runPolysSpec)) runPolysCard

/-- THE SECOND FORM's CARD OF 'quincunxlaw30.RunFractions'. -/
def runFractionsUptoCard : Claim7 := { stood := { row := runFractionsUptoRow, standIns := [], harness := (true, "a48c1a45b1604189c91345f8dbd26699c0da77ff5fba637e95e526eabbd13f48"), looks := true }, kinds := [], alts := [], laidByText := true, laidKinds := [.data, .pinned], laidTests := true, laidLooks := .later }
def RunFractionsUptoCardSaid : Prop := Claim7.holds Tryz.pinned (.plain (OpenSpec.upto runFractionsSpec)) runFractionsUptoCard

/-- THE SECOND FORM's CARD OF 'quincunxlaw30.RunPolys'. -/
def runPolysUptoCard : Claim7 := { stood := { row := runPolysUptoRow, standIns := [], harness := (true, "a48c1a45b1604189c91345f8dbd26699c0da77ff5fba637e95e526eabbd13f48"), looks := true }, kinds := [], alts := [], laidByText := true, laidKinds := [.data, .pinned], laidTests := true, laidLooks := .later }
def RunPolysUptoCardSaid : Prop := Claim7.holds Tryz.pinned (.plain (OpenSpec.upto runPolysSpec)) runPolysUptoCard
end Rows
end Go.Proofs.YtjnhnbgpifohjaaGreatDoor
