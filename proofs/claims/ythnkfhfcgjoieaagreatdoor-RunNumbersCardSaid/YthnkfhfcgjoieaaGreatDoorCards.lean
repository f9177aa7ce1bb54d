/-
  DERIVED. GIVEN WITH THE SEED: THE CARDS: each row of YthnkfhfcgjoieaaGreatDoorRows.lean that lists a variable, with what it lists TIED to the program's text (the seventh form; the later family's looks); each row that meets fmt, with fmt's text TOLD by the authors' own Lean function (tested against real Go, not proved from fmt's source: count such statements apart). THE CARD IS WHAT COUNTS. Prove the row's statement (the work); the ties are given (YthnkfhfcgjoieaaGreatDoorTie.lean); close each card by the builder's one call (the guide's Derived/Test/ToyasCard.lean, 'card_holds'). Laid BY PROGRAM, IN A SANDBOX (cutbox-door.mjs). By AI agents, Wed Nov 11 2026. No macro, syntax, notation, axiom, sorry.
-/
import Derived.Test.YthnkfhfcgjoieaaGreatDoorRows
import GoSem.ClaimSeven
namespace Go.Proofs.YthnkfhfcgjoieaaGreatDoor
namespace Rows

/-- THE TIED CARD OF 'quincunxlaw30.RunNumbers'. -/
def runNumbersCard : Claim7 := { stood := { row := runNumbersRow, standIns := [], harness := (true, "760feae154dc448a282f27ff0548bf0b7dcde59ed2be15d7574a9d0ddc5a64c7"), looks := true }, kinds := [], alts := [], laidByText := true, laidKinds := [.data, .pinned], laidTests := true, laidLooks := .later }
def RunNumbersCardSaid : Prop := Claim7.holds Tryz.pinned (.plain (OpenSpec.ofChange runNumbersSpec)) runNumbersCard

/-- THE SECOND FORM's CARD OF 'quincunxlaw30.RunNumbers'. -/
def runNumbersUptoCard : Claim7 := { stood := { row := runNumbersUptoRow, standIns := [], harness := (true, "760feae154dc448a282f27ff0548bf0b7dcde59ed2be15d7574a9d0ddc5a64c7"), looks := true }, kinds := [], alts := [], laidByText := true, laidKinds := [.data, .pinned], laidTests := true, laidLooks := .later }
def RunNumbersUptoCardSaid : Prop := Claim7.holds Tryz.pinned (.plain (OpenSpec.upto runNumbersSpec)) runNumbersUptoCard
end Rows
end Go.Proofs.YthnkfhfcgjoieaaGreatDoor
