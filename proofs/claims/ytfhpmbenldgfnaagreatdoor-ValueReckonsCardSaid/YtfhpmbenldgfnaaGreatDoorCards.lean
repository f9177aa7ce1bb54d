/-
  DERIVED. GIVEN WITH THE SEED: THE CARDS: each row of YtfhpmbenldgfnaaGreatDoorRows.lean that lists a variable, with what it lists TIED to the program's text (the seventh form; the later family's looks); each row that meets fmt, with fmt's text TOLD by the authors' own Lean function (tested against real Go, not proved from fmt's source: count such statements apart). THE CARD IS WHAT COUNTS. Prove the row's statement (the work); the ties are given (YtfhpmbenldgfnaaGreatDoorTie.lean); close each card by the builder's one call (the guide's Derived/Test/ToyasCard.lean, 'card_holds'). Laid BY PROGRAM, IN A SANDBOX (cutbox-door.mjs). By AI agents, Wed Nov 11 2026. No macro, syntax, notation, axiom, sorry.
-/
import Derived.Test.YtfhpmbenldgfnaaGreatDoorRows
import GoSem.ClaimSeven
namespace Go.Proofs.YtfhpmbenldgfnaaGreatDoor
namespace Rows

/-- THE TIED CARD OF 'quincunxlaw29.ValueCompares'. -/
def valueComparesCard : Claim7 := { stood := { row := valueComparesRow, standIns := [], harness := (true, "9329f0f1b10c7b90bfe8de72982885ced24a95070e5306078a8e00a76ac14deb"), looks := false }, kinds := [], alts := [], laidByText := true, laidKinds := [.data, .pinned], laidTests := true, laidLooks := .later }
def ValueComparesCardSaid : Prop := Claim7.holds Tryz.pinned (.plain (OpenSpec.ofChange valueComparesSpec)) valueComparesCard

/-- THE TIED CARD OF 'quincunxlaw29.ValueQuotients'. -/
def valueQuotientsCard : Claim7 := { stood := { row := valueQuotientsRow, standIns := [], harness := (true, "9329f0f1b10c7b90bfe8de72982885ced24a95070e5306078a8e00a76ac14deb"), looks := false }, kinds := [], alts := [], laidByText := true, laidKinds := [.data, .pinned], laidTests := true, laidLooks := .later }
def ValueQuotientsCardSaid : Prop := Claim7.holds Tryz.pinned (.plain (OpenSpec.ofChange valueQuotientsSpec)) valueQuotientsCard

/-- THE TIED CARD OF 'quincunxlaw29.ValueMultiples'. -/
def valueMultiplesCard : Claim7 := { stood := { row := valueMultiplesRow, standIns := [], harness := (true, "9329f0f1b10c7b90bfe8de72982885ced24a95070e5306078a8e00a76ac14deb"), looks := false }, kinds := [], alts := [], laidByText := true, laidKinds := [.data, .pinned], laidTests := true, laidLooks := .later }
def ValueMultiplesCardSaid : Prop := Claim7.holds Tryz.pinned (.plain (OpenSpec.ofChange valueMultiplesSpec)) valueMultiplesCard

/-- THE TIED CARD OF 'quincunxlaw29.ValuePowers'. -/
def valuePowersCard : Claim7 := { stood := { row := valuePowersRow, standIns := [], harness := (true, "9329f0f1b10c7b90bfe8de72982885ced24a95070e5306078a8e00a76ac14deb"), looks := false }, kinds := [], alts := [], laidByText := true, laidKinds := [.data, .pinned], laidTests := true, laidLooks := .later }
def ValuePowersCardSaid : Prop := Claim7.holds Tryz.pinned (.plain (OpenSpec.ofChange valuePowersSpec)) valuePowersCard

/-- THE TIED CARD OF 'quincunxlaw29.ValuePrints'. -/
def valuePrintsCard : Claim7 := { stood := { row := valuePrintsRow, standIns := [], harness := (true, "9329f0f1b10c7b90bfe8de72982885ced24a95070e5306078a8e00a76ac14deb"), looks := false }, kinds := [], alts := [], laidByText := true, laidKinds := [.data, .pinned], laidTests := true, laidLooks := .later }
def ValuePrintsCardSaid : Prop := Claim7.holds Tryz.pinned (.plain (OpenSpec.ofChange valuePrintsSpec)) valuePrintsCard

/-- THE TIED CARD OF 'quincunxlaw29.ValueReckons'. -/
def valueReckonsCard : Claim7 := { stood := { row := valueReckonsRow, standIns := [], harness := (true, "9329f0f1b10c7b90bfe8de72982885ced24a95070e5306078a8e00a76ac14deb"), looks := false }, kinds := [], alts := [], laidByText := true, laidKinds := [.data, .pinned], laidTests := true, laidLooks := .later }
def ValueReckonsCardSaid : Prop := Claim7.holds Tryz.pinned (.plain (OpenSpec.ofChange valueReckonsSpec)) valueReckonsCard

/-- THE TIED CARD OF 'quincunxlaw29.ValueMakes'. -/
def valueMakesCard : Claim7 := { stood := { row := valueMakesRow, standIns := [], harness := (true, "9329f0f1b10c7b90bfe8de72982885ced24a95070e5306078a8e00a76ac14deb"), looks := false }, kinds := [], alts := [], laidByText := true, laidKinds := [.data, .pinned], laidTests := true, laidLooks := .later }
def ValueMakesCardSaid : Prop := Claim7.holds Tryz.pinned (.plain (OpenSpec.ofChange valueMakesSpec)) valueMakesCard

/-- THE TIED CARD OF 'quincunxlaw29.ValueItems'. -/
def valueItemsCard : Claim7 := { stood := { row := valueItemsRow, standIns := [], harness := (true, "9329f0f1b10c7b90bfe8de72982885ced24a95070e5306078a8e00a76ac14deb"), looks := false }, kinds := [], alts := [], laidByText := true, laidKinds := [.data, .pinned], laidTests := true, laidLooks := .later }
def ValueItemsCardSaid : Prop := Claim7.holds Tryz.pinned (.plain (OpenSpec.ofChange valueItemsSpec)) valueItemsCard

/-- THE SECOND FORM's CARD OF 'quincunxlaw29.ValueCompares'. -/
def valueComparesUptoCard : Claim7 := { stood := { row := valueComparesUptoRow, standIns := [], harness := (true, "9329f0f1b10c7b90bfe8de72982885ced24a95070e5306078a8e00a76ac14deb"), looks := false }, kinds := [], alts := [], laidByText := true, laidKinds := [.data, .pinned], laidTests := true, laidLooks := .later }
def ValueComparesUptoCardSaid : Prop := Claim7.holds Tryz.pinned (.plain (OpenSpec.upto valueComparesSpec)) valueComparesUptoCard

/-- THE SECOND FORM's CARD OF 'quincunxlaw29.ValueQuotients'. -/
def valueQuotientsUptoCard : Claim7 := { stood := { row := valueQuotientsUptoRow, standIns := [], harness := (true, "9329f0f1b10c7b90bfe8de72982885ced24a95070e5306078a8e00a76ac14deb"), looks := false }, kinds := [], alts := [], laidByText := true, laidKinds := [.data, .pinned], laidTests := true, laidLooks := .later }
def ValueQuotientsUptoCardSaid : Prop := Claim7.holds Tryz.pinned (.plain (OpenSpec.upto valueQuotientsSpec)) valueQuotientsUptoCard

/-- THE SECOND FORM's CARD OF 'quincunxlaw29.ValueMultiples'. -/
def valueMultiplesUptoCard : Claim7 := { stood := { row := valueMultiplesUptoRow, standIns := [], harness := (true, "9329f0f1b10c7b90bfe8de72982885ced24a95070e5306078a8e00a76ac14deb"), looks := false }, kinds := [], alts := [], laidByText := true, laidKinds := [.data, .pinned], laidTests := true, laidLooks := .later }
def ValueMultiplesUptoCardSaid : Prop := Claim7.holds Tryz.pinned (.plain (OpenSpec.upto valueMultiplesSpec)) valueMultiplesUptoCard

/-- THE SECOND FORM's CARD OF 'quincunxlaw29.ValuePowers'. -/
def valuePowersUptoCard : Claim7 := { stood := { row := valuePowersUptoRow, standIns := [], harness := (true, "9329f0f1b10c7b90bfe8de72982885ced24a95070e5306078a8e00a76ac14deb"), looks := false }, kinds := [], alts := [], laidByText := true, laidKinds := [.data, .pinned], laidTests := true, laidLooks := .later }
def ValuePowersUptoCardSaid : Prop := Claim7.holds Tryz.pinned (.plain (OpenSpec.upto valuePowersSpec)) valuePowersUptoCard

/-- THE SECOND FORM's CARD OF 'quincunxlaw29.ValuePrints'. -/
def valuePrintsUptoCard : Claim7 := { stood := { row := valuePrintsUptoRow, standIns := [], harness := (true, "9329f0f1b10c7b90bfe8de72982885ced24a95070e5306078a8e00a76ac14deb"), looks := false }, kinds := [], alts := [], laidByText := true, laidKinds := [.data, .pinned], laidTests := true, laidLooks := .later }
def ValuePrintsUptoCardSaid : Prop := Claim7.holds Tryz.pinned (.plain (OpenSpec.upto valuePrintsSpec)) valuePrintsUptoCard

/-- THE SECOND FORM's CARD OF 'quincunxlaw29.ValueReckons'. -/
def valueReckonsUptoCard : Claim7 := { stood := { row := valueReckonsUptoRow, standIns := [], harness := (true, "9329f0f1b10c7b90bfe8de72982885ced24a95070e5306078a8e00a76ac14deb"), looks := false }, kinds := [], alts := [], laidByText := true, laidKinds := [.data, .pinned], laidTests := true, laidLooks := .later }
def ValueReckonsUptoCardSaid : Prop := Claim7.holds Tryz.pinned (.plain (OpenSpec.upto valueReckonsSpec)) valueReckonsUptoCard

/-- THE SECOND FORM's CARD OF 'quincunxlaw29.ValueMakes'. -/
def valueMakesUptoCard : Claim7 := { stood := { row := valueMakesUptoRow, standIns := [], harness := (true, "9329f0f1b10c7b90bfe8de72982885ced24a95070e5306078a8e00a76ac14deb"), looks := false }, kinds := [], alts := [], laidByText := true, laidKinds := [.data, .pinned], laidTests := true, laidLooks := .later }
def ValueMakesUptoCardSaid : Prop := Claim7.holds Tryz.pinned (.plain (OpenSpec.upto valueMakesSpec)) valueMakesUptoCard

/-- THE SECOND FORM's CARD OF 'quincunxlaw29.ValueItems'. -/
def valueItemsUptoCard : Claim7 := { stood := { row := valueItemsUptoRow, standIns := [], harness := (true, "9329f0f1b10c7b90bfe8de72982885ced24a95070e5306078a8e00a76ac14deb"), looks := false }, kinds := [], alts := [], laidByText := true, laidKinds := [.data, .pinned], laidTests := true, laidLooks := .later }
def ValueItemsUptoCardSaid : Prop := Claim7.holds Tryz.pinned (.plain (OpenSpec.upto valueItemsSpec)) valueItemsUptoCard
end Rows
end Go.Proofs.YtfhpmbenldgfnaaGreatDoor
