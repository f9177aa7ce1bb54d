/-
  DERIVED. GIVEN WITH THE SEED: THE CARDS: each row of YtkdonndeogihfaaDoorRows.lean that lists a variable, with what it lists TIED to the program's text (the seventh form; the later family's looks); each row that meets fmt, with fmt's text TOLD by the authors' own Lean function (tested against real Go, not proved from fmt's source: count such statements apart). THE CARD IS WHAT COUNTS. Prove the row's statement (the work); the ties are given (YtkdonndeogihfaaDoorTie.lean); close each card by the builder's one call (the guide's Derived/Test/ToyasCard.lean, 'card_holds'). Laid BY PROGRAM, IN A SANDBOX (cutbox-door.mjs). By AI agents, Wed Nov 11 2026. No macro, syntax, notation, axiom, sorry.
-/
import Derived.Test.YtkdonndeogihfaaDoorRows
import GoSem.ClaimSeven
namespace Go.Proofs.YtkdonndeogihfaaDoor
namespace Rows

/-- THE TIED CARD OF 'quincunxlaw04.DecPrints'. -/
def decPrintsCard : Claim7 := { stood := { row := decPrintsRow, standIns := [], harness := (true, "33b584ec239de980e3552f0d8bf5563f218249cb8024f2155d728d57c640c6dd"), looks := false }, kinds := [], alts := [], laidByText := true, laidKinds := [.data, .pinned], laidTests := true, laidLooks := .later }
def DecPrintsCardSaid : Prop := Claim7.holds Tryd.pinned (.plain (OpenSpec.ofChange decPrintsSpec)) decPrintsCard

/-- THE TIED CARD OF 'quincunxlaw04.DecParses'. -/
def decParsesCard : Claim7 := { stood := { row := decParsesRow, standIns := [], harness := (true, "33b584ec239de980e3552f0d8bf5563f218249cb8024f2155d728d57c640c6dd"), looks := false }, kinds := [], alts := [], laidByText := true, laidKinds := [.data, .pinned], laidTests := true, laidLooks := .later }
def DecParsesCardSaid : Prop := Claim7.holds Tryd.pinned (.plain (OpenSpec.ofChange decParsesSpec)) decParsesCard

/-- THE TIED CARD OF 'quincunxlaw04.DecBack'. -/
def decBackCard : Claim7 := { stood := { row := decBackRow, standIns := [], harness := (true, "33b584ec239de980e3552f0d8bf5563f218249cb8024f2155d728d57c640c6dd"), looks := false }, kinds := [], alts := [], laidByText := true, laidKinds := [.data, .pinned], laidTests := true, laidLooks := .later }
def DecBackCardSaid : Prop := Claim7.holds Tryd.pinned (.plain (OpenSpec.ofChange decBackSpec)) decBackCard

/-- THE TIED CARD OF 'quincunxlaw04.DecLong'. -/
def decLongCard : Claim7 := { stood := { row := decLongRow, standIns := [], harness := (true, "33b584ec239de980e3552f0d8bf5563f218249cb8024f2155d728d57c640c6dd"), looks := false }, kinds := [], alts := [], laidByText := true, laidKinds := [.data, .pinned], laidTests := true, laidLooks := .later }
def DecLongCardSaid : Prop := Claim7.holds Tryd.pinned (.plain (OpenSpec.ofChange decLongSpec)) decLongCard

/-- THE TIED CARD OF 'quincunxlaw04.DecSums'. -/
def decSumsCard : Claim7 := { stood := { row := decSumsRow, standIns := [], harness := (true, "33b584ec239de980e3552f0d8bf5563f218249cb8024f2155d728d57c640c6dd"), looks := false }, kinds := [], alts := [], laidByText := true, laidKinds := [.data, .pinned], laidTests := true, laidLooks := .later }
def DecSumsCardSaid : Prop := Claim7.holds Tryd.pinned (.plain (OpenSpec.ofChange decSumsSpec)) decSumsCard

/-- THE TIED CARD OF 'quincunxlaw07.RatMakes'. -/
def ratMakesCard : Claim7 := { stood := { row := ratMakesRow, standIns := [], harness := (true, "33b584ec239de980e3552f0d8bf5563f218249cb8024f2155d728d57c640c6dd"), looks := false }, kinds := [], alts := [], laidByText := true, laidKinds := [.data, .pinned], laidTests := true, laidLooks := .later }
def RatMakesCardSaid : Prop := Claim7.holds Tryd.pinned (.plain (OpenSpec.ofChange ratMakesSpec)) ratMakesCard

/-- THE TIED CARD OF 'quincunxlaw07.RatField'. -/
def ratFieldCard : Claim7 := { stood := { row := ratFieldRow, standIns := [], harness := (true, "33b584ec239de980e3552f0d8bf5563f218249cb8024f2155d728d57c640c6dd"), looks := false }, kinds := [], alts := [], laidByText := true, laidKinds := [.data, .pinned], laidTests := true, laidLooks := .later }
def RatFieldCardSaid : Prop := Claim7.holds Tryd.pinned (.plain (OpenSpec.ofChange ratFieldSpec)) ratFieldCard

/-- THE TIED CARD OF 'quincunxlaw07.RatAdds'. -/
def ratAddsCard : Claim7 := { stood := { row := ratAddsRow, standIns := [], harness := (true, "33b584ec239de980e3552f0d8bf5563f218249cb8024f2155d728d57c640c6dd"), looks := false }, kinds := [], alts := [], laidByText := true, laidKinds := [.data, .pinned], laidTests := true, laidLooks := .later }
def RatAddsCardSaid : Prop := Claim7.holds Tryd.pinned (.plain (OpenSpec.ofChange ratAddsSpec)) ratAddsCard

/-- THE TIED CARD OF 'quincunxlaw05.IntTexts'. -/
def intTextsCard : Claim7 := { stood := { row := intTextsRow, standIns := [], harness := (true, "33b584ec239de980e3552f0d8bf5563f218249cb8024f2155d728d57c640c6dd"), looks := false }, kinds := [], alts := [], laidByText := true, laidKinds := [.data, .pinned], laidTests := true, laidLooks := .later }
def IntTextsCardSaid : Prop := Claim7.holds Tryd.pinned (.plain (OpenSpec.ofChange intTextsSpec)) intTextsCard

/-- THE TIED CARD OF 'quincunxlaw07.RatRounds'. -/
def ratRoundsCard : Claim7 := { stood := { row := ratRoundsRow, standIns := [], harness := (true, "33b584ec239de980e3552f0d8bf5563f218249cb8024f2155d728d57c640c6dd"), looks := false }, kinds := [], alts := [], laidByText := true, laidKinds := [.data, .pinned], laidTests := true, laidLooks := .later }
def RatRoundsCardSaid : Prop := Claim7.holds Tryd.pinned (.plain (OpenSpec.ofChange ratRoundsSpec)) ratRoundsCard

/-- THE TIED CARD OF 'quincunxlaw07.RatPowers'. -/
def ratPowersCard : Claim7 := { stood := { row := ratPowersRow, standIns := [], harness := (true, "33b584ec239de980e3552f0d8bf5563f218249cb8024f2155d728d57c640c6dd"), looks := false }, kinds := [], alts := [], laidByText := true, laidKinds := [.data, .pinned], laidTests := true, laidLooks := .later }
def RatPowersCardSaid : Prop := Claim7.holds Tryd.pinned (.plain (OpenSpec.ofChange ratPowersSpec)) ratPowersCard

/-- THE TIED CARD OF 'quincunxlaw07.RatTexts'. -/
def ratTextsCard : Claim7 := { stood := { row := ratTextsRow, standIns := [], harness := (true, "33b584ec239de980e3552f0d8bf5563f218249cb8024f2155d728d57c640c6dd"), looks := false }, kinds := [], alts := [], laidByText := true, laidKinds := [.data, .pinned], laidTests := true, laidLooks := .later }
def RatTextsCardSaid : Prop := Claim7.holds Tryd.pinned (.plain (OpenSpec.ofChange ratTextsSpec)) ratTextsCard

/-- THE SECOND FORM's CARD OF 'quincunxlaw04.DecPrints'. -/
def decPrintsUptoCard : Claim7 := { stood := { row := decPrintsUptoRow, standIns := [], harness := (true, "33b584ec239de980e3552f0d8bf5563f218249cb8024f2155d728d57c640c6dd"), looks := false }, kinds := [], alts := [], laidByText := true, laidKinds := [.data, .pinned], laidTests := true, laidLooks := .later }
def DecPrintsUptoCardSaid : Prop := Claim7.holds Tryd.pinned (.plain (OpenSpec.upto decPrintsSpec)) decPrintsUptoCard

/-- THE SECOND FORM's CARD OF 'quincunxlaw04.DecParses'. -/
def decParsesUptoCard : Claim7 := { stood := { row := decParsesUptoRow, standIns := [], harness := (true, "33b584ec239de980e3552f0d8bf5563f218249cb8024f2155d728d57c640c6dd"), looks := false }, kinds := [], alts := [], laidByText := true, laidKinds := [.data, .pinned], laidTests := true, laidLooks := .later }
def DecParsesUptoCardSaid : Prop := Claim7.holds Tryd.pinned (.plain (OpenSpec.upto decParsesSpec)) decParsesUptoCard

/-- THE SECOND FORM's CARD OF 'quincunxlaw04.DecBack'. -/
def decBackUptoCard : Claim7 := { stood := { row := decBackUptoRow, standIns := [], harness := (true, "33b584ec239de980e3552f0d8bf5563f218249cb8024f2155d728d57c640c6dd"), looks := false }, kinds := [], alts := [], laidByText := true, laidKinds := [.data, .pinned], laidTests := true, laidLooks := .later }
def DecBackUptoCardSaid : Prop := Claim7.holds Tryd.pinned (.plain (OpenSpec.upto decBackSpec)) decBackUptoCard

/-- THE SECOND FORM's CARD OF 'quincunxlaw04.DecLong'. -/
def decLongUptoCard : Claim7 := { stood := { row := decLongUptoRow, standIns := [], harness := (true, "33b584ec239de980e3552f0d8bf5563f218249cb8024f2155d728d57c640c6dd"), looks := false }, kinds := [], alts := [], laidByText := true, laidKinds := [.data, .pinned], laidTests := true, laidLooks := .later }
def DecLongUptoCardSaid : Prop := Claim7.holds Tryd.pinned (.plain (OpenSpec.upto decLongSpec)) decLongUptoCard

/-- THE SECOND FORM's CARD OF 'quincunxlaw04.DecSums'. -/
def decSumsUptoCard : Claim7 := { stood := { row := decSumsUptoRow, standIns := [], harness := (true, "33b584ec239de980e3552f0d8bf5563f218249cb8024f2155d728d57c640c6dd"), looks := false }, kinds := [], alts := [], laidByText := true, laidKinds := [.data, .pinned], laidTests := true, laidLooks := .later }
def DecSumsUptoCardSaid : Prop := Claim7.holds Tryd.pinned (.plain (OpenSpec.upto decSumsSpec)) decSumsUptoCard

/-- THE SECOND FORM's CARD OF 'quincunxlaw07.RatMakes'. -/
def ratMakesUptoCard : Claim7 := { stood := { row := ratMakesUptoRow, standIns := [], harness := (true, "33b584ec239de980e3552f0d8bf5563f218249cb8024f2155d728d57c640c6dd"), looks := false }, kinds := [], alts := [], laidByText := true, laidKinds := [.data, .pinned], laidTests := true, laidLooks := .later }
def RatMakesUptoCardSaid : Prop := Claim7.holds Tryd.pinned (.plain (OpenSpec.upto ratMakesSpec)) ratMakesUptoCard

/-- THE SECOND FORM's CARD OF 'quincunxlaw07.RatField'. -/
def ratFieldUptoCard : Claim7 := { stood := { row := ratFieldUptoRow, standIns := [], harness := (true, "33b584ec239de980e3552f0d8bf5563f218249cb8024f2155d728d57c640c6dd"), looks := false }, kinds := [], alts := [], laidByText := true, laidKinds := [.data, .pinned], laidTests := true, laidLooks := .later }
def RatFieldUptoCardSaid : Prop := Claim7.holds Tryd.pinned (.plain (OpenSpec.upto ratFieldSpec)) ratFieldUptoCard

/-- THE SECOND FORM's CARD OF 'quincunxlaw07.RatAdds'. -/
def ratAddsUptoCard : Claim7 := { stood := { row := ratAddsUptoRow, standIns := [], harness := (true, "33b584ec239de980e3552f0d8bf5563f218249cb8024f2155d728d57c640c6dd"), looks := false }, kinds := [], alts := [], laidByText := true, laidKinds := [.data, .pinned], laidTests := true, laidLooks := .later }
def RatAddsUptoCardSaid : Prop := Claim7.holds Tryd.pinned (.plain (OpenSpec.upto ratAddsSpec)) ratAddsUptoCard

/-- THE SECOND FORM's CARD OF 'quincunxlaw05.IntTexts'. -/
def intTextsUptoCard : Claim7 := { stood := { row := intTextsUptoRow, standIns := [], harness := (true, "33b584ec239de980e3552f0d8bf5563f218249cb8024f2155d728d57c640c6dd"), looks := false }, kinds := [], alts := [], laidByText := true, laidKinds := [.data, .pinned], laidTests := true, laidLooks := .later }
def IntTextsUptoCardSaid : Prop := Claim7.holds Tryd.pinned (.plain (OpenSpec.upto intTextsSpec)) intTextsUptoCard

/-- THE SECOND FORM's CARD OF 'quincunxlaw07.RatRounds'. -/
def ratRoundsUptoCard : Claim7 := { stood := { row := ratRoundsUptoRow, standIns := [], harness := (true, "33b584ec239de980e3552f0d8bf5563f218249cb8024f2155d728d57c640c6dd"), looks := false }, kinds := [], alts := [], laidByText := true, laidKinds := [.data, .pinned], laidTests := true, laidLooks := .later }
def RatRoundsUptoCardSaid : Prop := Claim7.holds Tryd.pinned (.plain (OpenSpec.upto ratRoundsSpec)) ratRoundsUptoCard

/-- THE SECOND FORM's CARD OF 'quincunxlaw07.RatPowers'. -/
def ratPowersUptoCard : Claim7 := { stood := { row := ratPowersUptoRow, standIns := [], harness := (true, "33b584ec239de980e3552f0d8bf5563f218249cb8024f2155d728d57c640c6dd"), looks := false }, kinds := [], alts := [], laidByText := true, laidKinds := [.data, .pinned], laidTests := true, laidLooks := .later }
def RatPowersUptoCardSaid : Prop := Claim7.holds Tryd.pinned (.plain (OpenSpec.upto ratPowersSpec)) ratPowersUptoCard

/-- THE SECOND FORM's CARD OF 'quincunxlaw07.RatTexts'. -/
def ratTextsUptoCard : Claim7 := { stood := { row := ratTextsUptoRow, standIns := [], harness := (true, "33b584ec239de980e3552f0d8bf5563f218249cb8024f2155d728d57c640c6dd"), looks := false }, kinds := [], alts := [], laidByText := true, laidKinds := [.data, .pinned], laidTests := true, laidLooks := .later }
def RatTextsUptoCardSaid : Prop := Claim7.holds Tryd.pinned (.plain (OpenSpec.upto ratTextsSpec)) ratTextsUptoCard
end Rows
end Go.Proofs.YtkdonndeogihfaaDoor
