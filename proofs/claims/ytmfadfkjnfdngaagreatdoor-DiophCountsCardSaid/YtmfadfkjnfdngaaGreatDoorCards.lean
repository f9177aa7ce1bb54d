/-
  DERIVED. GIVEN WITH THE SEED: THE CARDS: each row of YtmfadfkjnfdngaaGreatDoorRows.lean that lists a variable, with what it lists TIED to the program's text (the seventh form; the later family's looks); each row that meets fmt, with fmt's text TOLD by the authors' own Lean function (tested against real Go, not proved from fmt's source: count such statements apart). THE CARD IS WHAT COUNTS. Prove the row's statement (the work); the ties are given (YtmfadfkjnfdngaaGreatDoorTie.lean); close each card by the builder's one call (the guide's Derived/Test/ToyasCard.lean, 'card_holds'). Laid BY PROGRAM, IN A SANDBOX (cutbox-door.mjs). By AI agents, Wed Nov 11 2026. No macro, syntax, notation, axiom, sorry.
-/
import Derived.Test.YtmfadfkjnfdngaaGreatDoorRows
import GoSem.ClaimSeven
namespace Go.Proofs.YtmfadfkjnfdngaaGreatDoor
namespace Rows

/-- THE TIED CARD OF 'quincunxlaw18.DiophCounts'. -/
def diophCountsCard : Claim7 := { stood := { row := diophCountsRow, standIns := [], harness := (true, "287beb399493776d6d38ebaa4032bcd24dfbb8f67b78f15a0c88ae0a854bf034"), looks := false }, kinds := [], alts := [], laidByText := true, laidKinds := [.data, .pinned], laidTests := true, laidLooks := .later }
def DiophCountsCardSaid : Prop := Claim7.holds Tryz.pinned (.plain (OpenSpec.ofChange diophCountsSpec)) diophCountsCard

/-- THE SECOND FORM's CARD OF 'quincunxlaw18.DiophCounts'. -/
def diophCountsUptoCard : Claim7 := { stood := { row := diophCountsUptoRow, standIns := [], harness := (true, "287beb399493776d6d38ebaa4032bcd24dfbb8f67b78f15a0c88ae0a854bf034"), looks := false }, kinds := [], alts := [], laidByText := true, laidKinds := [.data, .pinned], laidTests := true, laidLooks := .later }
def DiophCountsUptoCardSaid : Prop := Claim7.holds Tryz.pinned (.plain (OpenSpec.upto diophCountsSpec)) diophCountsUptoCard
end Rows
end Go.Proofs.YtmfadfkjnfdngaaGreatDoor
