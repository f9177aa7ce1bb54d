/-
  DERIVED. GIVEN WITH THE SEED: THE CARDS: each row of YtmgfiodmdfaclaaGreatDoorRows.lean that lists a variable, with what it lists TIED to the program's text (the seventh form; the later family's looks); each row that meets fmt, with fmt's text TOLD by the authors' own Lean function (tested against real Go, not proved from fmt's source: count such statements apart). THE CARD IS WHAT COUNTS. Prove the row's statement (the work); the ties are given (YtmgfiodmdfaclaaGreatDoorTie.lean); close each card by the builder's one call (the guide's Derived/Test/ToyasCard.lean, 'card_holds'). Laid BY PROGRAM, IN A SANDBOX (cutbox-door.mjs). By AI agents, Wed Nov 11 2026. No macro, syntax, notation, axiom, sorry.
-/
import Derived.Test.YtmgfiodmdfaclaaGreatDoorRows
import GoSem.ClaimSeven
namespace Go.Proofs.YtmgfiodmdfaclaaGreatDoor
namespace Rows

/-- THE TIED CARD OF 'quincunxtop.TopPrints'. -/
def topPrintsCard : Claim7 := { stood := { row := topPrintsRow, standIns := [], harness := (true, "b6ca8ba6e9d8a56199498938f4056ec6051907ff270d17dc62d61cd9fe5921b1"), looks := true }, kinds := [], alts := [], laidByText := true, laidKinds := [.data, .pinned], laidTests := true, laidLooks := .later }
def TopPrintsCardSaid : Prop := Claim7.holds Tryz.pinned (.plain (OpenSpec.ofChange topPrintsSpec)) topPrintsCard

/-- THE SECOND FORM's CARD OF 'quincunxtop.TopPrints'. -/
def topPrintsUptoCard : Claim7 := { stood := { row := topPrintsUptoRow, standIns := [], harness := (true, "b6ca8ba6e9d8a56199498938f4056ec6051907ff270d17dc62d61cd9fe5921b1"), looks := true }, kinds := [], alts := [], laidByText := true, laidKinds := [.data, .pinned], laidTests := true, laidLooks := .later }
def TopPrintsUptoCardSaid : Prop := Claim7.holds Tryz.pinned (.plain (OpenSpec.upto topPrintsSpec)) topPrintsUptoCard
end Rows
end Go.Proofs.YtmgfiodmdfaclaaGreatDoor
