/-
  NARROWER THAN 'FOR EVERY INPUT', by the rows' own cells (each row's printed sentence says how): ValueCompares: loops, laid · ValueQuotients: loops, laid · ValueMultiples: loops, laid · ValuePowers: loops, laid · ValuePrints: loops, laid · ValueReckons: loops, laid · ValueMakes: laid · ValueItems: loops, laid.
  DERIVED. THE GIVEN ROWS OF THIS SEAT. 8 by the template 'for every input the law returns true; each argument reads behind the call as it read before'; 0 by the template 'total and deterministic' (their statements: YtfhpmbenldgfnaaGreatDoorTotals.lean).
  GIVEN WITH THE SEED: the statements are not yours to turn. If you find one false, say at which input.
  Laid BY PROGRAM, IN A SANDBOX (cutbox-rows.mjs): the forced cells as the released guide's own fill.sh prints them over the translation fdabe79ab4b586ad… (all of the seat's roots in one cut). By AI agents, Wed Nov 11 2026. No macro, syntax, notation, axiom, sorry.
-/
import Derived.Test.YtfhpmbenldgfnaaGreatDoorChecked
import GoSem.PinnedTables
import GoSem.Claim
import GoSem.ClaimJoined
import GoSem.ClaimMapViews
import Derived.JoinedTies
import Derived.KernelRfl
namespace Go.Proofs.YtfhpmbenldgfnaaGreatDoor
/- THE CELL 'sum', in the pinned program and in every row, IS THE sha256 OF THE DUMP (.gsa) THAT YtfhpmbenldgfnaaGreatDoorProg.lean LOADS. Nothing in Lean hashes anything: it is a label: what it is worth is what the hold of that sum in a sandbox is worth. -/
noncomputable def Tryz.pinned : Pinned := { name := "ytfhpmbenldgfnaagreatdoor", sum := "fdabe79ab4b586ad33a14fa21abe69f491148bff8dddf83a9f5318bb2b332b7b", checked := Tryz.checked }
namespace Rows
def none {H : Type} : Left H := { results := [], args := [] }

/- WHAT THE LISTED PACKAGE-LEVEL VARIABLES READ AS WHEN THE CALL BEGINS. Each datum BY PROGRAM (the guide's laid-datum.mjs) off the statement by which the dump's own 'gosem.cut.vars' lays the variable. In a bare row this is a premise. The card (YtfhpmbenldgfnaaGreatDoorCards.lean) ties it to the program's text. -/
def laid_unicode_utf8_acceptRanges {H : Type} : DataW H := .agg [.agg [.lit (.int .u8 128), .lit (.int .u8 191)], .agg [.lit (.int .u8 160), .lit (.int .u8 191)], .agg [.lit (.int .u8 128), .lit (.int .u8 159)], .agg [.lit (.int .u8 144), .lit (.int .u8 191)], .agg [.lit (.int .u8 128), .lit (.int .u8 143)], .agg [.lit (.int .u8 0), .lit (.int .u8 0)], .agg [.lit (.int .u8 0), .lit (.int .u8 0)], .agg [.lit (.int .u8 0), .lit (.int .u8 0)], .agg [.lit (.int .u8 0), .lit (.int .u8 0)], .agg [.lit (.int .u8 0), .lit (.int .u8 0)], .agg [.lit (.int .u8 0), .lit (.int .u8 0)], .agg [.lit (.int .u8 0), .lit (.int .u8 0)], .agg [.lit (.int .u8 0), .lit (.int .u8 0)], .agg [.lit (.int .u8 0), .lit (.int .u8 0)], .agg [.lit (.int .u8 0), .lit (.int .u8 0)], .agg [.lit (.int .u8 0), .lit (.int .u8 0)]]
/-- One of Go's own tables, pinned by name: the form's constant. -/
def laid_unicode_utf8_first : DataW Unit := Go.Pinned.utf8First

/-- 'quincunxlaw29.ValueCompares': WHATEVER THE INPUT: true; the input reads as it did. -/
def valueComparesSpec : ChangeSpec := { name := "valueCompares", fn := fun _ => fun
  | [d1, d2] => { results := [.lit (.bool true)], args := [d1, d2] }
  | _ => none }
def valueComparesRow : OpenClaim := { program := "ytfhpmbenldgfnaagreatdoor", sum := "fdabe79ab4b586ad33a14fa21abe69f491148bff8dddf83a9f5318bb2b332b7b", func := "quincunx/quincunxlaw29.ValueCompares", spec := "valueCompares", inPlace := ["math/bits.Add64", "math/bits.Sub64", "internal/bytealg.IndexByteString", "internal/bytealg.IndexString", "internal/abi.NoEscape", "internal/bytealg.MakeNoZero"], unfollowed := true, recurses := true, named := ["math/bits.divideError", "math/bits.overflowError", "unicode/utf8.first", "unicode/utf8.acceptRanges", "internal/bytealg.MaxLen"], loops := true, apart := false, laid := [("unicode/utf8.acceptRanges", laid_unicode_utf8_acceptRanges), ("unicode/utf8.first", laid_unicode_utf8_first)] }
def ValueComparesSaid : Prop := valueComparesRow.holds Tryz.pinned (OpenSpec.ofChange valueComparesSpec)

/-- ITS FALSE NEIGHBOUR: 'it returns false'. Refute it at one input. -/
def valueComparesWrong : ChangeSpec := { name := "valueCompares", fn := fun _ => fun
  | [d1, d2] => { results := [.lit (.bool false)], args := [d1, d2] }
  | _ => none }
def ValueComparesWrongFalsely : Prop := valueComparesRow.holds Tryz.pinned (OpenSpec.ofChange valueComparesWrong)

/-- 'quincunxlaw29.ValueQuotients': WHATEVER THE INPUT: true; the input reads as it did. -/
def valueQuotientsSpec : ChangeSpec := { name := "valueQuotients", fn := fun _ => fun
  | [d1, d2] => { results := [.lit (.bool true)], args := [d1, d2] }
  | _ => none }
def valueQuotientsRow : OpenClaim := { program := "ytfhpmbenldgfnaagreatdoor", sum := "fdabe79ab4b586ad33a14fa21abe69f491148bff8dddf83a9f5318bb2b332b7b", func := "quincunx/quincunxlaw29.ValueQuotients", spec := "valueQuotients", inPlace := ["math/bits.Add64", "math/bits.Sub64", "internal/bytealg.IndexByteString", "internal/bytealg.IndexString", "internal/abi.NoEscape", "internal/bytealg.MakeNoZero"], unfollowed := true, recurses := true, named := ["math/bits.divideError", "math/bits.overflowError", "unicode/utf8.first", "unicode/utf8.acceptRanges", "internal/bytealg.MaxLen"], loops := true, apart := false, laid := [("unicode/utf8.acceptRanges", laid_unicode_utf8_acceptRanges), ("unicode/utf8.first", laid_unicode_utf8_first)] }
def ValueQuotientsSaid : Prop := valueQuotientsRow.holds Tryz.pinned (OpenSpec.ofChange valueQuotientsSpec)

/-- ITS FALSE NEIGHBOUR: 'it returns false'. Refute it at one input. -/
def valueQuotientsWrong : ChangeSpec := { name := "valueQuotients", fn := fun _ => fun
  | [d1, d2] => { results := [.lit (.bool false)], args := [d1, d2] }
  | _ => none }
def ValueQuotientsWrongFalsely : Prop := valueQuotientsRow.holds Tryz.pinned (OpenSpec.ofChange valueQuotientsWrong)

/-- 'quincunxlaw29.ValueMultiples': WHATEVER THE INPUT: true; the input reads as it did. -/
def valueMultiplesSpec : ChangeSpec := { name := "valueMultiples", fn := fun _ => fun
  | [d1, d2] => { results := [.lit (.bool true)], args := [d1, d2] }
  | _ => none }
def valueMultiplesRow : OpenClaim := { program := "ytfhpmbenldgfnaagreatdoor", sum := "fdabe79ab4b586ad33a14fa21abe69f491148bff8dddf83a9f5318bb2b332b7b", func := "quincunx/quincunxlaw29.ValueMultiples", spec := "valueMultiples", inPlace := ["math/bits.Add64", "math/bits.Sub64", "internal/bytealg.IndexByteString", "internal/bytealg.IndexString", "internal/abi.NoEscape", "internal/bytealg.MakeNoZero"], unfollowed := true, recurses := true, named := ["math/bits.divideError", "math/bits.overflowError", "unicode/utf8.first", "unicode/utf8.acceptRanges", "internal/bytealg.MaxLen"], loops := true, apart := false, laid := [("unicode/utf8.acceptRanges", laid_unicode_utf8_acceptRanges), ("unicode/utf8.first", laid_unicode_utf8_first)] }
def ValueMultiplesSaid : Prop := valueMultiplesRow.holds Tryz.pinned (OpenSpec.ofChange valueMultiplesSpec)

/-- ITS FALSE NEIGHBOUR: 'it returns false'. Refute it at one input. -/
def valueMultiplesWrong : ChangeSpec := { name := "valueMultiples", fn := fun _ => fun
  | [d1, d2] => { results := [.lit (.bool false)], args := [d1, d2] }
  | _ => none }
def ValueMultiplesWrongFalsely : Prop := valueMultiplesRow.holds Tryz.pinned (OpenSpec.ofChange valueMultiplesWrong)

/-- 'quincunxlaw29.ValuePowers': WHATEVER THE INPUT: true; the input reads as it did. -/
def valuePowersSpec : ChangeSpec := { name := "valuePowers", fn := fun _ => fun
  | [d1, d2] => { results := [.lit (.bool true)], args := [d1, d2] }
  | _ => none }
def valuePowersRow : OpenClaim := { program := "ytfhpmbenldgfnaagreatdoor", sum := "fdabe79ab4b586ad33a14fa21abe69f491148bff8dddf83a9f5318bb2b332b7b", func := "quincunx/quincunxlaw29.ValuePowers", spec := "valuePowers", inPlace := ["math/bits.Add64", "math/bits.Sub64", "internal/bytealg.IndexByteString", "internal/bytealg.IndexString", "internal/abi.NoEscape", "internal/bytealg.MakeNoZero"], unfollowed := true, recurses := true, named := ["math/bits.divideError", "math/bits.overflowError", "unicode/utf8.first", "unicode/utf8.acceptRanges", "internal/bytealg.MaxLen"], loops := true, apart := false, laid := [("unicode/utf8.acceptRanges", laid_unicode_utf8_acceptRanges), ("unicode/utf8.first", laid_unicode_utf8_first)] }
def ValuePowersSaid : Prop := valuePowersRow.holds Tryz.pinned (OpenSpec.ofChange valuePowersSpec)

/-- ITS FALSE NEIGHBOUR: 'it returns false'. Refute it at one input. -/
def valuePowersWrong : ChangeSpec := { name := "valuePowers", fn := fun _ => fun
  | [d1, d2] => { results := [.lit (.bool false)], args := [d1, d2] }
  | _ => none }
def ValuePowersWrongFalsely : Prop := valuePowersRow.holds Tryz.pinned (OpenSpec.ofChange valuePowersWrong)

/-- 'quincunxlaw29.ValuePrints': WHATEVER THE INPUT: true; the input reads as it did. -/
def valuePrintsSpec : ChangeSpec := { name := "valuePrints", fn := fun _ => fun
  | [d1, d2] => { results := [.lit (.bool true)], args := [d1, d2] }
  | _ => none }
def valuePrintsRow : OpenClaim := { program := "ytfhpmbenldgfnaagreatdoor", sum := "fdabe79ab4b586ad33a14fa21abe69f491148bff8dddf83a9f5318bb2b332b7b", func := "quincunx/quincunxlaw29.ValuePrints", spec := "valuePrints", inPlace := ["math/bits.Add64", "math/bits.Sub64", "internal/bytealg.IndexByteString", "internal/bytealg.IndexString", "internal/abi.NoEscape", "internal/bytealg.MakeNoZero"], unfollowed := true, recurses := true, named := ["math/bits.divideError", "math/bits.overflowError", "unicode/utf8.first", "unicode/utf8.acceptRanges", "internal/bytealg.MaxLen"], loops := true, apart := false, laid := [("unicode/utf8.acceptRanges", laid_unicode_utf8_acceptRanges), ("unicode/utf8.first", laid_unicode_utf8_first)] }
def ValuePrintsSaid : Prop := valuePrintsRow.holds Tryz.pinned (OpenSpec.ofChange valuePrintsSpec)

/-- ITS FALSE NEIGHBOUR: 'it returns false'. Refute it at one input. -/
def valuePrintsWrong : ChangeSpec := { name := "valuePrints", fn := fun _ => fun
  | [d1, d2] => { results := [.lit (.bool false)], args := [d1, d2] }
  | _ => none }
def ValuePrintsWrongFalsely : Prop := valuePrintsRow.holds Tryz.pinned (OpenSpec.ofChange valuePrintsWrong)

/-- 'quincunxlaw29.ValueReckons': WHATEVER THE INPUT: true; the input reads as it did. -/
def valueReckonsSpec : ChangeSpec := { name := "valueReckons", fn := fun _ => fun
  | [d1, d2, d3] => { results := [.lit (.bool true)], args := [d1, d2, d3] }
  | _ => none }
def valueReckonsRow : OpenClaim := { program := "ytfhpmbenldgfnaagreatdoor", sum := "fdabe79ab4b586ad33a14fa21abe69f491148bff8dddf83a9f5318bb2b332b7b", func := "quincunx/quincunxlaw29.ValueReckons", spec := "valueReckons", inPlace := ["math/bits.Add64", "math/bits.Sub64", "internal/bytealg.IndexByteString", "internal/bytealg.IndexString", "internal/abi.NoEscape", "internal/bytealg.MakeNoZero"], unfollowed := true, recurses := true, named := ["math/bits.divideError", "math/bits.overflowError", "unicode/utf8.first", "unicode/utf8.acceptRanges", "internal/bytealg.MaxLen"], loops := true, apart := false, laid := [("unicode/utf8.acceptRanges", laid_unicode_utf8_acceptRanges), ("unicode/utf8.first", laid_unicode_utf8_first)] }
def ValueReckonsSaid : Prop := valueReckonsRow.holds Tryz.pinned (OpenSpec.ofChange valueReckonsSpec)

/-- ITS FALSE NEIGHBOUR: 'it returns false'. Refute it at one input. -/
def valueReckonsWrong : ChangeSpec := { name := "valueReckons", fn := fun _ => fun
  | [d1, d2, d3] => { results := [.lit (.bool false)], args := [d1, d2, d3] }
  | _ => none }
def ValueReckonsWrongFalsely : Prop := valueReckonsRow.holds Tryz.pinned (OpenSpec.ofChange valueReckonsWrong)

/-- 'quincunxlaw29.ValueMakes': WHATEVER THE INPUT: true; the input reads as it did. -/
def valueMakesSpec : ChangeSpec := { name := "valueMakes", fn := fun _ => fun
  | [d1, d2] => { results := [.lit (.bool true)], args := [d1, d2] }
  | _ => none }
def valueMakesRow : OpenClaim := { program := "ytfhpmbenldgfnaagreatdoor", sum := "fdabe79ab4b586ad33a14fa21abe69f491148bff8dddf83a9f5318bb2b332b7b", func := "quincunx/quincunxlaw29.ValueMakes", spec := "valueMakes", inPlace := ["math/bits.Add64", "math/bits.Sub64", "internal/bytealg.IndexByteString", "internal/bytealg.IndexString", "internal/abi.NoEscape", "internal/bytealg.MakeNoZero"], unfollowed := true, recurses := true, named := ["math/bits.divideError", "math/bits.overflowError", "unicode/utf8.first", "unicode/utf8.acceptRanges", "internal/bytealg.MaxLen"], apart := false, laid := [("unicode/utf8.acceptRanges", laid_unicode_utf8_acceptRanges), ("unicode/utf8.first", laid_unicode_utf8_first)] }
def ValueMakesSaid : Prop := valueMakesRow.holds Tryz.pinned (OpenSpec.ofChange valueMakesSpec)

/-- ITS FALSE NEIGHBOUR: 'it returns false'. Refute it at one input. -/
def valueMakesWrong : ChangeSpec := { name := "valueMakes", fn := fun _ => fun
  | [d1, d2] => { results := [.lit (.bool false)], args := [d1, d2] }
  | _ => none }
def ValueMakesWrongFalsely : Prop := valueMakesRow.holds Tryz.pinned (OpenSpec.ofChange valueMakesWrong)

/-- 'quincunxlaw29.ValueItems': WHATEVER THE INPUT: true; the input reads as it did. -/
def valueItemsSpec : ChangeSpec := { name := "valueItems", fn := fun _ => fun
  | [d1, d2, d3] => { results := [.lit (.bool true)], args := [d1, d2, d3] }
  | _ => none }
def valueItemsRow : OpenClaim := { program := "ytfhpmbenldgfnaagreatdoor", sum := "fdabe79ab4b586ad33a14fa21abe69f491148bff8dddf83a9f5318bb2b332b7b", func := "quincunx/quincunxlaw29.ValueItems", spec := "valueItems", inPlace := ["math/bits.Add64", "math/bits.Sub64", "internal/bytealg.IndexByteString", "internal/bytealg.IndexString", "internal/abi.NoEscape", "internal/bytealg.MakeNoZero"], unfollowed := true, recurses := true, named := ["math/bits.divideError", "math/bits.overflowError", "unicode/utf8.first", "unicode/utf8.acceptRanges", "internal/bytealg.MaxLen"], loops := true, apart := false, laid := [("unicode/utf8.acceptRanges", laid_unicode_utf8_acceptRanges), ("unicode/utf8.first", laid_unicode_utf8_first)] }
def ValueItemsSaid : Prop := valueItemsRow.holds Tryz.pinned (OpenSpec.ofChange valueItemsSpec)

/-- ITS FALSE NEIGHBOUR: 'it returns false'. Refute it at one input. -/
def valueItemsWrong : ChangeSpec := { name := "valueItems", fn := fun _ => fun
  | [d1, d2, d3] => { results := [.lit (.bool false)], args := [d1, d2, d3] }
  | _ => none }
def ValueItemsWrongFalsely : Prop := valueItemsRow.holds Tryz.pinned (OpenSpec.ofChange valueItemsWrong)

/- THE SECOND FORM. 'bulk': how many values and letters a reading holds, each counted each time it is reached (what is shared counts as often as it is met; a slice's spare places count too). A statement '..UptoSaid' is the law's where the arguments, and the package variables that the reading takes, are together of bulk at most 1048576: NARROWER than '..Said'. Prove '..Said' where nothing that the law and all that it calls make is longer than what came in: it says more and counts as full. Else prove '..UptoSaid'. A law counts once. -/
mutual
def uptoBulk {H : Type} : DataW H → Nat
  | .lit (.string bytes) => bytes.length + 1
  | .lit _ => 1
  | .nil => 1
  | .ptr d => uptoBulk d + 1
  | .slice elems spare => uptoBulkAll elems + uptoBulkAll spare + 1
  | .agg parts => uptoBulkAll parts + 1
  | .iface _ d => uptoBulk d + 1
  | .map entries => uptoBulkEntries entries + 1
  | .held _ => 1
def uptoBulkAll {H : Type} : List (DataW H) → Nat
  | [] => 0
  | d :: r => uptoBulk d + uptoBulkAll r
def uptoBulkEntries {H : Type} : List (Lit × DataW H) → Nat
  | [] => 0
  | x :: r => uptoBulkEntry x + uptoBulkEntries r
def uptoBulkEntry {H : Type} : Lit × DataW H → Nat
  | (.string bytes, d) => bytes.length + uptoBulk d + 1
  | (_, d) => uptoBulk d + 1
 end
def uptoSmall : (H : Type) → List (DataW H) → Bool := fun _ ds => decide (uptoBulkAll ds ≤ 1048576)
def OpenSpec.upto (s : _root_.Go.ChangeSpec) : _root_.Go.OpenSpec := { _root_.Go.OpenSpec.ofChange s with cond := some uptoSmall }

/-- 'quincunxlaw29.ValueCompares', WHERE WHAT IT READS IS OF BULK AT MOST 1048576: true; the input reads as it did. -/
def valueComparesUptoRow : OpenClaim := { program := "ytfhpmbenldgfnaagreatdoor", sum := "fdabe79ab4b586ad33a14fa21abe69f491148bff8dddf83a9f5318bb2b332b7b", func := "quincunx/quincunxlaw29.ValueCompares", spec := "valueCompares", inPlace := ["math/bits.Add64", "math/bits.Sub64", "internal/bytealg.IndexByteString", "internal/bytealg.IndexString", "internal/abi.NoEscape", "internal/bytealg.MakeNoZero"], unfollowed := true, recurses := true, named := ["math/bits.divideError", "math/bits.overflowError", "unicode/utf8.first", "unicode/utf8.acceptRanges", "internal/bytealg.MaxLen"], loops := true, apart := false, laid := [("unicode/utf8.acceptRanges", laid_unicode_utf8_acceptRanges), ("unicode/utf8.first", laid_unicode_utf8_first)], narrowed := true }
def ValueComparesUptoSaid : Prop := valueComparesUptoRow.holds Tryz.pinned (OpenSpec.upto valueComparesSpec)

/-- 'quincunxlaw29.ValueQuotients', WHERE WHAT IT READS IS OF BULK AT MOST 1048576: true; the input reads as it did. -/
def valueQuotientsUptoRow : OpenClaim := { program := "ytfhpmbenldgfnaagreatdoor", sum := "fdabe79ab4b586ad33a14fa21abe69f491148bff8dddf83a9f5318bb2b332b7b", func := "quincunx/quincunxlaw29.ValueQuotients", spec := "valueQuotients", inPlace := ["math/bits.Add64", "math/bits.Sub64", "internal/bytealg.IndexByteString", "internal/bytealg.IndexString", "internal/abi.NoEscape", "internal/bytealg.MakeNoZero"], unfollowed := true, recurses := true, named := ["math/bits.divideError", "math/bits.overflowError", "unicode/utf8.first", "unicode/utf8.acceptRanges", "internal/bytealg.MaxLen"], loops := true, apart := false, laid := [("unicode/utf8.acceptRanges", laid_unicode_utf8_acceptRanges), ("unicode/utf8.first", laid_unicode_utf8_first)], narrowed := true }
def ValueQuotientsUptoSaid : Prop := valueQuotientsUptoRow.holds Tryz.pinned (OpenSpec.upto valueQuotientsSpec)

/-- 'quincunxlaw29.ValueMultiples', WHERE WHAT IT READS IS OF BULK AT MOST 1048576: true; the input reads as it did. -/
def valueMultiplesUptoRow : OpenClaim := { program := "ytfhpmbenldgfnaagreatdoor", sum := "fdabe79ab4b586ad33a14fa21abe69f491148bff8dddf83a9f5318bb2b332b7b", func := "quincunx/quincunxlaw29.ValueMultiples", spec := "valueMultiples", inPlace := ["math/bits.Add64", "math/bits.Sub64", "internal/bytealg.IndexByteString", "internal/bytealg.IndexString", "internal/abi.NoEscape", "internal/bytealg.MakeNoZero"], unfollowed := true, recurses := true, named := ["math/bits.divideError", "math/bits.overflowError", "unicode/utf8.first", "unicode/utf8.acceptRanges", "internal/bytealg.MaxLen"], loops := true, apart := false, laid := [("unicode/utf8.acceptRanges", laid_unicode_utf8_acceptRanges), ("unicode/utf8.first", laid_unicode_utf8_first)], narrowed := true }
def ValueMultiplesUptoSaid : Prop := valueMultiplesUptoRow.holds Tryz.pinned (OpenSpec.upto valueMultiplesSpec)

/-- 'quincunxlaw29.ValuePowers', WHERE WHAT IT READS IS OF BULK AT MOST 1048576: true; the input reads as it did. -/
def valuePowersUptoRow : OpenClaim := { program := "ytfhpmbenldgfnaagreatdoor", sum := "fdabe79ab4b586ad33a14fa21abe69f491148bff8dddf83a9f5318bb2b332b7b", func := "quincunx/quincunxlaw29.ValuePowers", spec := "valuePowers", inPlace := ["math/bits.Add64", "math/bits.Sub64", "internal/bytealg.IndexByteString", "internal/bytealg.IndexString", "internal/abi.NoEscape", "internal/bytealg.MakeNoZero"], unfollowed := true, recurses := true, named := ["math/bits.divideError", "math/bits.overflowError", "unicode/utf8.first", "unicode/utf8.acceptRanges", "internal/bytealg.MaxLen"], loops := true, apart := false, laid := [("unicode/utf8.acceptRanges", laid_unicode_utf8_acceptRanges), ("unicode/utf8.first", laid_unicode_utf8_first)], narrowed := true }
def ValuePowersUptoSaid : Prop := valuePowersUptoRow.holds Tryz.pinned (OpenSpec.upto valuePowersSpec)

/-- 'quincunxlaw29.ValuePrints', WHERE WHAT IT READS IS OF BULK AT MOST 1048576: true; the input reads as it did. -/
def valuePrintsUptoRow : OpenClaim := { program := "ytfhpmbenldgfnaagreatdoor", sum := "fdabe79ab4b586ad33a14fa21abe69f491148bff8dddf83a9f5318bb2b332b7b", func := "quincunx/quincunxlaw29.ValuePrints", spec := "valuePrints", inPlace := ["math/bits.Add64", "math/bits.Sub64", "internal/bytealg.IndexByteString", "internal/bytealg.IndexString", "internal/abi.NoEscape", "internal/bytealg.MakeNoZero"], unfollowed := true, recurses := true, named := ["math/bits.divideError", "math/bits.overflowError", "unicode/utf8.first", "unicode/utf8.acceptRanges", "internal/bytealg.MaxLen"], loops := true, apart := false, laid := [("unicode/utf8.acceptRanges", laid_unicode_utf8_acceptRanges), ("unicode/utf8.first", laid_unicode_utf8_first)], narrowed := true }
def ValuePrintsUptoSaid : Prop := valuePrintsUptoRow.holds Tryz.pinned (OpenSpec.upto valuePrintsSpec)

/-- 'quincunxlaw29.ValueReckons', WHERE WHAT IT READS IS OF BULK AT MOST 1048576: true; the input reads as it did. -/
def valueReckonsUptoRow : OpenClaim := { program := "ytfhpmbenldgfnaagreatdoor", sum := "fdabe79ab4b586ad33a14fa21abe69f491148bff8dddf83a9f5318bb2b332b7b", func := "quincunx/quincunxlaw29.ValueReckons", spec := "valueReckons", inPlace := ["math/bits.Add64", "math/bits.Sub64", "internal/bytealg.IndexByteString", "internal/bytealg.IndexString", "internal/abi.NoEscape", "internal/bytealg.MakeNoZero"], unfollowed := true, recurses := true, named := ["math/bits.divideError", "math/bits.overflowError", "unicode/utf8.first", "unicode/utf8.acceptRanges", "internal/bytealg.MaxLen"], loops := true, apart := false, laid := [("unicode/utf8.acceptRanges", laid_unicode_utf8_acceptRanges), ("unicode/utf8.first", laid_unicode_utf8_first)], narrowed := true }
def ValueReckonsUptoSaid : Prop := valueReckonsUptoRow.holds Tryz.pinned (OpenSpec.upto valueReckonsSpec)

/-- 'quincunxlaw29.ValueMakes', WHERE WHAT IT READS IS OF BULK AT MOST 1048576: true; the input reads as it did. -/
def valueMakesUptoRow : OpenClaim := { program := "ytfhpmbenldgfnaagreatdoor", sum := "fdabe79ab4b586ad33a14fa21abe69f491148bff8dddf83a9f5318bb2b332b7b", func := "quincunx/quincunxlaw29.ValueMakes", spec := "valueMakes", inPlace := ["math/bits.Add64", "math/bits.Sub64", "internal/bytealg.IndexByteString", "internal/bytealg.IndexString", "internal/abi.NoEscape", "internal/bytealg.MakeNoZero"], unfollowed := true, recurses := true, named := ["math/bits.divideError", "math/bits.overflowError", "unicode/utf8.first", "unicode/utf8.acceptRanges", "internal/bytealg.MaxLen"], apart := false, laid := [("unicode/utf8.acceptRanges", laid_unicode_utf8_acceptRanges), ("unicode/utf8.first", laid_unicode_utf8_first)], narrowed := true }
def ValueMakesUptoSaid : Prop := valueMakesUptoRow.holds Tryz.pinned (OpenSpec.upto valueMakesSpec)

/-- 'quincunxlaw29.ValueItems', WHERE WHAT IT READS IS OF BULK AT MOST 1048576: true; the input reads as it did. -/
def valueItemsUptoRow : OpenClaim := { program := "ytfhpmbenldgfnaagreatdoor", sum := "fdabe79ab4b586ad33a14fa21abe69f491148bff8dddf83a9f5318bb2b332b7b", func := "quincunx/quincunxlaw29.ValueItems", spec := "valueItems", inPlace := ["math/bits.Add64", "math/bits.Sub64", "internal/bytealg.IndexByteString", "internal/bytealg.IndexString", "internal/abi.NoEscape", "internal/bytealg.MakeNoZero"], unfollowed := true, recurses := true, named := ["math/bits.divideError", "math/bits.overflowError", "unicode/utf8.first", "unicode/utf8.acceptRanges", "internal/bytealg.MaxLen"], loops := true, apart := false, laid := [("unicode/utf8.acceptRanges", laid_unicode_utf8_acceptRanges), ("unicode/utf8.first", laid_unicode_utf8_first)], narrowed := true }
def ValueItemsUptoSaid : Prop := valueItemsUptoRow.holds Tryz.pinned (OpenSpec.upto valueItemsSpec)

end Rows
end Go.Proofs.YtfhpmbenldgfnaaGreatDoor
