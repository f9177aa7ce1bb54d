/-
  DERIVED. GIVEN WITH THE SEED: THE CARDS: each row of YtcamgbgfelmbaaaGreatDoorRows.lean that lists a variable, with what it lists TIED to the program's text (the seventh form; the later family's looks); each row that meets fmt, with fmt's text TOLD by the authors' own Lean function (tested against real Go, not proved from fmt's source: count such statements apart). THE CARD IS WHAT COUNTS. Prove the row's statement (the work); the ties are given (YtcamgbgfelmbaaaGreatDoorTie.lean); close each card by the builder's one call (the guide's Derived/Test/ToyasCard.lean, 'card_holds'). Laid BY PROGRAM, IN A SANDBOX (cutbox-door.mjs). By AI agents, Wed Nov 11 2026. No macro, syntax, notation, axiom, sorry.
-/
import Derived.Test.YtcamgbgfelmbaaaGreatDoorRows
import GoSem.ClaimSeven
namespace Go.Proofs.YtcamgbgfelmbaaaGreatDoor
namespace Rows

/-- THE TIED CARD OF 'quincunxtop.TopChars'. -/
def topCharsCard : Claim7 := { stood := { row := topCharsRow, standIns := [], harness := (true, "57fc8c55bba582d2258f8f65ae25af7fbf350204d5747df4a0b641ff3a90de19"), looks := true }, kinds := [], alts := [], laidByText := true, laidKinds := [.data, .pinned], laidTests := true, laidLooks := .later }
def TopCharsCardSaid : Prop := Claim7.holds Tryz.pinned (.plain (OpenSpec.ofChange topCharsSpec)) topCharsCard

/-- THE SECOND FORM's CARD OF 'quincunxtop.TopChars'. -/
def topCharsUptoCard : Claim7 := { stood := { row := topCharsUptoRow, standIns := [], harness := (true, "57fc8c55bba582d2258f8f65ae25af7fbf350204d5747df4a0b641ff3a90de19"), looks := true }, kinds := [], alts := [], laidByText := true, laidKinds := [.data, .pinned], laidTests := true, laidLooks := .later }
def TopCharsUptoCardSaid : Prop := Claim7.holds Tryz.pinned (.plain (OpenSpec.upto topCharsSpec)) topCharsUptoCard
end Rows
end Go.Proofs.YtcamgbgfelmbaaaGreatDoor
