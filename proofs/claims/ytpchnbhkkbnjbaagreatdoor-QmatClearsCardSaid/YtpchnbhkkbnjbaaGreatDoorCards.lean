/-
  DERIVED. GIVEN WITH THE SEED: THE CARDS: each row of YtpchnbhkkbnjbaaGreatDoorRows.lean that lists a variable, with what it lists TIED to the program's text (the seventh form; the later family's looks); each row that meets fmt, with fmt's text TOLD by the authors' own Lean function (tested against real Go, not proved from fmt's source: count such statements apart). THE CARD IS WHAT COUNTS. Prove the row's statement (the work); the ties are given (YtpchnbhkkbnjbaaGreatDoorTie.lean); close each card by the builder's one call (the guide's Derived/Test/ToyasCard.lean, 'card_holds'). Laid BY PROGRAM, IN A SANDBOX (cutbox-door.mjs). By AI agents, Wed Nov 11 2026. No macro, syntax, notation, axiom, sorry.
-/
import Derived.Test.YtpchnbhkkbnjbaaGreatDoorRows
import GoSem.ClaimSeven
namespace Go.Proofs.YtpchnbhkkbnjbaaGreatDoor
namespace Rows

/-- THE TIED CARD OF 'quincunxlaw13.QmatReduces'. -/
def qmatReducesCard : Claim7 := { stood := { row := qmatReducesRow, standIns := [], harness := (true, "e15862a97bb35e8fc59f48439bb7dd52d831509d2f9d2b78cee44ca46001337a"), looks := false }, kinds := [], alts := [], laidByText := true, laidKinds := [.data, .pinned], laidTests := true, laidLooks := .later }
def QmatReducesCardSaid : Prop := Claim7.holds Tryz.pinned (.plain (OpenSpec.ofChange qmatReducesSpec)) qmatReducesCard

/-- THE TIED CARD OF 'quincunxlaw13.QmatInverts'. -/
def qmatInvertsCard : Claim7 := { stood := { row := qmatInvertsRow, standIns := [], harness := (true, "e15862a97bb35e8fc59f48439bb7dd52d831509d2f9d2b78cee44ca46001337a"), looks := false }, kinds := [], alts := [], laidByText := true, laidKinds := [.data, .pinned], laidTests := true, laidLooks := .later }
def QmatInvertsCardSaid : Prop := Claim7.holds Tryz.pinned (.plain (OpenSpec.ofChange qmatInvertsSpec)) qmatInvertsCard

/-- THE TIED CARD OF 'quincunxlaw13.QmatRows'. -/
def qmatRowsCard : Claim7 := { stood := { row := qmatRowsRow, standIns := [], harness := (true, "e15862a97bb35e8fc59f48439bb7dd52d831509d2f9d2b78cee44ca46001337a"), looks := false }, kinds := [], alts := [], laidByText := true, laidKinds := [.data, .pinned], laidTests := true, laidLooks := .later }
def QmatRowsCardSaid : Prop := Claim7.holds Tryz.pinned (.plain (OpenSpec.ofChange qmatRowsSpec)) qmatRowsCard

/-- THE TIED CARD OF 'quincunxlaw13.QmatClears'. -/
def qmatClearsCard : Claim7 := { stood := { row := qmatClearsRow, standIns := [], harness := (true, "e15862a97bb35e8fc59f48439bb7dd52d831509d2f9d2b78cee44ca46001337a"), looks := false }, kinds := [], alts := [], laidByText := true, laidKinds := [.data, .pinned], laidTests := true, laidLooks := .later }
def QmatClearsCardSaid : Prop := Claim7.holds Tryz.pinned (.plain (OpenSpec.ofChange qmatClearsSpec)) qmatClearsCard

/-- THE TIED CARD OF 'quincunxlaw13.QmatKernels'. -/
def qmatKernelsCard : Claim7 := { stood := { row := qmatKernelsRow, standIns := [], harness := (true, "e15862a97bb35e8fc59f48439bb7dd52d831509d2f9d2b78cee44ca46001337a"), looks := false }, kinds := [], alts := [], laidByText := true, laidKinds := [.data, .pinned], laidTests := true, laidLooks := .later }
def QmatKernelsCardSaid : Prop := Claim7.holds Tryz.pinned (.plain (OpenSpec.ofChange qmatKernelsSpec)) qmatKernelsCard

/-- THE TIED CARD OF 'quincunxlaw13.QmatSolves'. -/
def qmatSolvesCard : Claim7 := { stood := { row := qmatSolvesRow, standIns := [], harness := (true, "e15862a97bb35e8fc59f48439bb7dd52d831509d2f9d2b78cee44ca46001337a"), looks := false }, kinds := [], alts := [], laidByText := true, laidKinds := [.data, .pinned], laidTests := true, laidLooks := .later }
def QmatSolvesCardSaid : Prop := Claim7.holds Tryz.pinned (.plain (OpenSpec.ofChange qmatSolvesSpec)) qmatSolvesCard

/-- THE TIED CARD OF 'quincunxlaw13.QmatReckons'. -/
def qmatReckonsCard : Claim7 := { stood := { row := qmatReckonsRow, standIns := [], harness := (true, "e15862a97bb35e8fc59f48439bb7dd52d831509d2f9d2b78cee44ca46001337a"), looks := false }, kinds := [], alts := [], laidByText := true, laidKinds := [.data, .pinned], laidTests := true, laidLooks := .later }
def QmatReckonsCardSaid : Prop := Claim7.holds Tryz.pinned (.plain (OpenSpec.ofChange qmatReckonsSpec)) qmatReckonsCard

/-- THE SECOND FORM's CARD OF 'quincunxlaw13.QmatReduces'. -/
def qmatReducesUptoCard : Claim7 := { stood := { row := qmatReducesUptoRow, standIns := [], harness := (true, "e15862a97bb35e8fc59f48439bb7dd52d831509d2f9d2b78cee44ca46001337a"), looks := false }, kinds := [], alts := [], laidByText := true, laidKinds := [.data, .pinned], laidTests := true, laidLooks := .later }
def QmatReducesUptoCardSaid : Prop := Claim7.holds Tryz.pinned (.plain (OpenSpec.upto qmatReducesSpec)) qmatReducesUptoCard

/-- THE SECOND FORM's CARD OF 'quincunxlaw13.QmatInverts'. -/
def qmatInvertsUptoCard : Claim7 := { stood := { row := qmatInvertsUptoRow, standIns := [], harness := (true, "e15862a97bb35e8fc59f48439bb7dd52d831509d2f9d2b78cee44ca46001337a"), looks := false }, kinds := [], alts := [], laidByText := true, laidKinds := [.data, .pinned], laidTests := true, laidLooks := .later }
def QmatInvertsUptoCardSaid : Prop := Claim7.holds Tryz.pinned (.plain (OpenSpec.upto qmatInvertsSpec)) qmatInvertsUptoCard

/-- THE SECOND FORM's CARD OF 'quincunxlaw13.QmatRows'. -/
def qmatRowsUptoCard : Claim7 := { stood := { row := qmatRowsUptoRow, standIns := [], harness := (true, "e15862a97bb35e8fc59f48439bb7dd52d831509d2f9d2b78cee44ca46001337a"), looks := false }, kinds := [], alts := [], laidByText := true, laidKinds := [.data, .pinned], laidTests := true, laidLooks := .later }
def QmatRowsUptoCardSaid : Prop := Claim7.holds Tryz.pinned (.plain (OpenSpec.upto qmatRowsSpec)) qmatRowsUptoCard

/-- THE SECOND FORM's CARD OF 'quincunxlaw13.QmatClears'. -/
def qmatClearsUptoCard : Claim7 := { stood := { row := qmatClearsUptoRow, standIns := [], harness := (true, "e15862a97bb35e8fc59f48439bb7dd52d831509d2f9d2b78cee44ca46001337a"), looks := false }, kinds := [], alts := [], laidByText := true, laidKinds := [.data, .pinned], laidTests := true, laidLooks := .later }
def QmatClearsUptoCardSaid : Prop := Claim7.holds Tryz.pinned (.plain (OpenSpec.upto qmatClearsSpec)) qmatClearsUptoCard

/-- THE SECOND FORM's CARD OF 'quincunxlaw13.QmatKernels'. -/
def qmatKernelsUptoCard : Claim7 := { stood := { row := qmatKernelsUptoRow, standIns := [], harness := (true, "e15862a97bb35e8fc59f48439bb7dd52d831509d2f9d2b78cee44ca46001337a"), looks := false }, kinds := [], alts := [], laidByText := true, laidKinds := [.data, .pinned], laidTests := true, laidLooks := .later }
def QmatKernelsUptoCardSaid : Prop := Claim7.holds Tryz.pinned (.plain (OpenSpec.upto qmatKernelsSpec)) qmatKernelsUptoCard

/-- THE SECOND FORM's CARD OF 'quincunxlaw13.QmatSolves'. -/
def qmatSolvesUptoCard : Claim7 := { stood := { row := qmatSolvesUptoRow, standIns := [], harness := (true, "e15862a97bb35e8fc59f48439bb7dd52d831509d2f9d2b78cee44ca46001337a"), looks := false }, kinds := [], alts := [], laidByText := true, laidKinds := [.data, .pinned], laidTests := true, laidLooks := .later }
def QmatSolvesUptoCardSaid : Prop := Claim7.holds Tryz.pinned (.plain (OpenSpec.upto qmatSolvesSpec)) qmatSolvesUptoCard

/-- THE SECOND FORM's CARD OF 'quincunxlaw13.QmatReckons'. -/
def qmatReckonsUptoCard : Claim7 := { stood := { row := qmatReckonsUptoRow, standIns := [], harness := (true, "e15862a97bb35e8fc59f48439bb7dd52d831509d2f9d2b78cee44ca46001337a"), looks := false }, kinds := [], alts := [], laidByText := true, laidKinds := [.data, .pinned], laidTests := true, laidLooks := .later }
def QmatReckonsUptoCardSaid : Prop := Claim7.holds Tryz.pinned (.plain (OpenSpec.upto qmatReckonsSpec)) qmatReckonsUptoCard
end Rows
end Go.Proofs.YtpchnbhkkbnjbaaGreatDoor
