/-
  NARROWER THAN 'FOR EVERY INPUT', by the rows' own cells (each row's printed sentence says how): DecPrints: laid · DecParses: laid · DecBack: laid · DecLong: laid · DecSums: laid · RatMakes: laid · RatField: laid · RatAdds: laid · IntTexts: laid · RatRounds: laid · RatPowers: laid · RatTexts: laid.
  DERIVED. THE GIVEN ROWS OF THIS SEAT. 12 by the template 'for every input the law returns true; each argument reads behind the call as it read before'; 0 by the template 'total and deterministic' (their statements: YtkdonndeogihfaaDoorTotals.lean).
  GIVEN WITH THE SEED: the statements are not yours to turn. If you find one false, say at which input.
  Laid BY PROGRAM, IN A SANDBOX (cutbox-rows.mjs): the forced cells as the released guide's own fill.sh prints them over the translation 66cc6cf507d2a54e… (all of the seat's roots in one cut). By AI agents, Wed Nov 11 2026. No macro, syntax, notation, axiom, sorry.
-/
import Derived.Test.YtkdonndeogihfaaDoorChecked
import GoSem.PinnedTables
import GoSem.Claim
import GoSem.ClaimJoined
import GoSem.ClaimMapViews
import Derived.JoinedTies
import Derived.KernelRfl
namespace Go.Proofs.YtkdonndeogihfaaDoor
/- THE CELL 'sum', in the pinned program and in every row, IS THE sha256 OF THE DUMP (.gsa) THAT YtkdonndeogihfaaDoorProg.lean LOADS. Nothing in Lean hashes anything: it is a label: what it is worth is what the hold of that sum in a sandbox is worth. -/
noncomputable def Tryd.pinned : Pinned := { name := "ytkdonndeogihfaadoor", sum := "66cc6cf507d2a54ef0fdf263a8b0f2ef4bc362a49f74a63a7f0889b7a80102c0", checked := Tryd.checked }
namespace Rows
def none {H : Type} : Left H := { results := [], args := [] }

/- WHAT THE LISTED PACKAGE-LEVEL VARIABLES READ AS WHEN THE CALL BEGINS. Each datum BY PROGRAM (the guide's laid-datum.mjs) off the statement by which the dump's own 'gosem.cut.vars' lays the variable. In a bare row this is a premise. The card (YtkdonndeogihfaaDoorCards.lean) ties it to the program's text. -/
def laid_unicode_utf8_acceptRanges {H : Type} : DataW H := .agg [.agg [.lit (.int .u8 128), .lit (.int .u8 191)], .agg [.lit (.int .u8 160), .lit (.int .u8 191)], .agg [.lit (.int .u8 128), .lit (.int .u8 159)], .agg [.lit (.int .u8 144), .lit (.int .u8 191)], .agg [.lit (.int .u8 128), .lit (.int .u8 143)], .agg [.lit (.int .u8 0), .lit (.int .u8 0)], .agg [.lit (.int .u8 0), .lit (.int .u8 0)], .agg [.lit (.int .u8 0), .lit (.int .u8 0)], .agg [.lit (.int .u8 0), .lit (.int .u8 0)], .agg [.lit (.int .u8 0), .lit (.int .u8 0)], .agg [.lit (.int .u8 0), .lit (.int .u8 0)], .agg [.lit (.int .u8 0), .lit (.int .u8 0)], .agg [.lit (.int .u8 0), .lit (.int .u8 0)], .agg [.lit (.int .u8 0), .lit (.int .u8 0)], .agg [.lit (.int .u8 0), .lit (.int .u8 0)], .agg [.lit (.int .u8 0), .lit (.int .u8 0)]]
/-- One of Go's own tables, pinned by name: the form's constant. -/
def laid_unicode_utf8_first : DataW Unit := Go.Pinned.utf8First

/-- 'quincunxlaw04.DecPrints': WHATEVER THE INPUT: true; the input reads as it did. -/
def decPrintsSpec : ChangeSpec := { name := "decPrints", fn := fun _ => fun
  | [d] => { results := [.lit (.bool true)], args := [d] }
  | _ => none }
def decPrintsRow : OpenClaim := { program := "ytkdonndeogihfaadoor", sum := "66cc6cf507d2a54ef0fdf263a8b0f2ef4bc362a49f74a63a7f0889b7a80102c0", func := "quincunx/quincunxlaw04.DecPrints", spec := "decPrints", inPlace := ["math/bits.Add64", "math/bits.Sub64", "internal/bytealg.IndexByteString", "internal/bytealg.IndexString"], unfollowed := true, recurses := true, named := ["math/bits.divideError", "math/bits.overflowError", "unicode/utf8.first", "unicode/utf8.acceptRanges", "internal/bytealg.MaxLen"], apart := false, laid := [("unicode/utf8.acceptRanges", laid_unicode_utf8_acceptRanges), ("unicode/utf8.first", laid_unicode_utf8_first)] }
def DecPrintsSaid : Prop := decPrintsRow.holds Tryd.pinned (OpenSpec.ofChange decPrintsSpec)

/-- ITS FALSE NEIGHBOUR: 'it returns false'. Refute it at one input. -/
def decPrintsWrong : ChangeSpec := { name := "decPrints", fn := fun _ => fun
  | [d] => { results := [.lit (.bool false)], args := [d] }
  | _ => none }
def DecPrintsWrongFalsely : Prop := decPrintsRow.holds Tryd.pinned (OpenSpec.ofChange decPrintsWrong)

/-- 'quincunxlaw04.DecParses': WHATEVER THE INPUT: true; the input reads as it did. -/
def decParsesSpec : ChangeSpec := { name := "decParses", fn := fun _ => fun
  | [d] => { results := [.lit (.bool true)], args := [d] }
  | _ => none }
def decParsesRow : OpenClaim := { program := "ytkdonndeogihfaadoor", sum := "66cc6cf507d2a54ef0fdf263a8b0f2ef4bc362a49f74a63a7f0889b7a80102c0", func := "quincunx/quincunxlaw04.DecParses", spec := "decParses", inPlace := ["math/bits.Add64", "math/bits.Sub64", "internal/bytealg.IndexByteString", "internal/bytealg.IndexString"], unfollowed := true, recurses := true, named := ["math/bits.divideError", "math/bits.overflowError", "unicode/utf8.first", "unicode/utf8.acceptRanges", "internal/bytealg.MaxLen"], apart := false, laid := [("unicode/utf8.acceptRanges", laid_unicode_utf8_acceptRanges), ("unicode/utf8.first", laid_unicode_utf8_first)] }
def DecParsesSaid : Prop := decParsesRow.holds Tryd.pinned (OpenSpec.ofChange decParsesSpec)

/-- ITS FALSE NEIGHBOUR: 'it returns false'. Refute it at one input. -/
def decParsesWrong : ChangeSpec := { name := "decParses", fn := fun _ => fun
  | [d] => { results := [.lit (.bool false)], args := [d] }
  | _ => none }
def DecParsesWrongFalsely : Prop := decParsesRow.holds Tryd.pinned (OpenSpec.ofChange decParsesWrong)

/-- 'quincunxlaw04.DecBack': WHATEVER THE INPUT: true; the input reads as it did. -/
def decBackSpec : ChangeSpec := { name := "decBack", fn := fun _ => fun
  | [d1, d2] => { results := [.lit (.bool true)], args := [d1, d2] }
  | _ => none }
def decBackRow : OpenClaim := { program := "ytkdonndeogihfaadoor", sum := "66cc6cf507d2a54ef0fdf263a8b0f2ef4bc362a49f74a63a7f0889b7a80102c0", func := "quincunx/quincunxlaw04.DecBack", spec := "decBack", inPlace := ["math/bits.Add64", "math/bits.Sub64", "internal/bytealg.IndexByteString", "internal/bytealg.IndexString"], unfollowed := true, recurses := true, named := ["math/bits.divideError", "math/bits.overflowError", "unicode/utf8.first", "unicode/utf8.acceptRanges", "internal/bytealg.MaxLen"], apart := false, laid := [("unicode/utf8.acceptRanges", laid_unicode_utf8_acceptRanges), ("unicode/utf8.first", laid_unicode_utf8_first)] }
def DecBackSaid : Prop := decBackRow.holds Tryd.pinned (OpenSpec.ofChange decBackSpec)

/-- ITS FALSE NEIGHBOUR: 'it returns false'. Refute it at one input. -/
def decBackWrong : ChangeSpec := { name := "decBack", fn := fun _ => fun
  | [d1, d2] => { results := [.lit (.bool false)], args := [d1, d2] }
  | _ => none }
def DecBackWrongFalsely : Prop := decBackRow.holds Tryd.pinned (OpenSpec.ofChange decBackWrong)

/-- 'quincunxlaw04.DecLong': WHATEVER THE INPUT: true; the input reads as it did. -/
def decLongSpec : ChangeSpec := { name := "decLong", fn := fun _ => fun
  | [d1, d2] => { results := [.lit (.bool true)], args := [d1, d2] }
  | _ => none }
def decLongRow : OpenClaim := { program := "ytkdonndeogihfaadoor", sum := "66cc6cf507d2a54ef0fdf263a8b0f2ef4bc362a49f74a63a7f0889b7a80102c0", func := "quincunx/quincunxlaw04.DecLong", spec := "decLong", inPlace := ["math/bits.Add64", "math/bits.Sub64", "internal/bytealg.IndexByteString", "internal/bytealg.IndexString"], unfollowed := true, recurses := true, named := ["math/bits.divideError", "math/bits.overflowError", "unicode/utf8.first", "unicode/utf8.acceptRanges", "internal/bytealg.MaxLen"], apart := false, laid := [("unicode/utf8.acceptRanges", laid_unicode_utf8_acceptRanges), ("unicode/utf8.first", laid_unicode_utf8_first)] }
def DecLongSaid : Prop := decLongRow.holds Tryd.pinned (OpenSpec.ofChange decLongSpec)

/-- ITS FALSE NEIGHBOUR: 'it returns false'. Refute it at one input. -/
def decLongWrong : ChangeSpec := { name := "decLong", fn := fun _ => fun
  | [d1, d2] => { results := [.lit (.bool false)], args := [d1, d2] }
  | _ => none }
def DecLongWrongFalsely : Prop := decLongRow.holds Tryd.pinned (OpenSpec.ofChange decLongWrong)

/-- 'quincunxlaw04.DecSums': WHATEVER THE INPUT: true; the input reads as it did. -/
def decSumsSpec : ChangeSpec := { name := "decSums", fn := fun _ => fun
  | [d] => { results := [.lit (.bool true)], args := [d] }
  | _ => none }
def decSumsRow : OpenClaim := { program := "ytkdonndeogihfaadoor", sum := "66cc6cf507d2a54ef0fdf263a8b0f2ef4bc362a49f74a63a7f0889b7a80102c0", func := "quincunx/quincunxlaw04.DecSums", spec := "decSums", inPlace := ["math/bits.Add64", "math/bits.Sub64", "internal/bytealg.IndexByteString", "internal/bytealg.IndexString"], unfollowed := true, recurses := true, named := ["math/bits.divideError", "math/bits.overflowError", "unicode/utf8.first", "unicode/utf8.acceptRanges", "internal/bytealg.MaxLen"], apart := false, laid := [("unicode/utf8.acceptRanges", laid_unicode_utf8_acceptRanges), ("unicode/utf8.first", laid_unicode_utf8_first)] }
def DecSumsSaid : Prop := decSumsRow.holds Tryd.pinned (OpenSpec.ofChange decSumsSpec)

/-- ITS FALSE NEIGHBOUR: 'it returns false'. Refute it at one input. -/
def decSumsWrong : ChangeSpec := { name := "decSums", fn := fun _ => fun
  | [d] => { results := [.lit (.bool false)], args := [d] }
  | _ => none }
def DecSumsWrongFalsely : Prop := decSumsRow.holds Tryd.pinned (OpenSpec.ofChange decSumsWrong)

/-- 'quincunxlaw07.RatMakes': WHATEVER THE INPUT: true; the input reads as it did. -/
def ratMakesSpec : ChangeSpec := { name := "ratMakes", fn := fun _ => fun
  | [d1, d2] => { results := [.lit (.bool true)], args := [d1, d2] }
  | _ => none }
def ratMakesRow : OpenClaim := { program := "ytkdonndeogihfaadoor", sum := "66cc6cf507d2a54ef0fdf263a8b0f2ef4bc362a49f74a63a7f0889b7a80102c0", func := "quincunx/quincunxlaw07.RatMakes", spec := "ratMakes", inPlace := ["math/bits.Add64", "math/bits.Sub64", "internal/bytealg.IndexByteString", "internal/bytealg.IndexString"], unfollowed := true, recurses := true, named := ["math/bits.divideError", "math/bits.overflowError", "unicode/utf8.first", "unicode/utf8.acceptRanges", "internal/bytealg.MaxLen"], apart := false, laid := [("unicode/utf8.acceptRanges", laid_unicode_utf8_acceptRanges), ("unicode/utf8.first", laid_unicode_utf8_first)] }
def RatMakesSaid : Prop := ratMakesRow.holds Tryd.pinned (OpenSpec.ofChange ratMakesSpec)

/-- ITS FALSE NEIGHBOUR: 'it returns false'. Refute it at one input. -/
def ratMakesWrong : ChangeSpec := { name := "ratMakes", fn := fun _ => fun
  | [d1, d2] => { results := [.lit (.bool false)], args := [d1, d2] }
  | _ => none }
def RatMakesWrongFalsely : Prop := ratMakesRow.holds Tryd.pinned (OpenSpec.ofChange ratMakesWrong)

/-- 'quincunxlaw07.RatField': WHATEVER THE INPUT: true; the input reads as it did. -/
def ratFieldSpec : ChangeSpec := { name := "ratField", fn := fun _ => fun
  | [d1, d2, d3] => { results := [.lit (.bool true)], args := [d1, d2, d3] }
  | _ => none }
def ratFieldRow : OpenClaim := { program := "ytkdonndeogihfaadoor", sum := "66cc6cf507d2a54ef0fdf263a8b0f2ef4bc362a49f74a63a7f0889b7a80102c0", func := "quincunx/quincunxlaw07.RatField", spec := "ratField", inPlace := ["math/bits.Add64", "math/bits.Sub64", "internal/bytealg.IndexByteString", "internal/bytealg.IndexString"], unfollowed := true, recurses := true, named := ["math/bits.divideError", "math/bits.overflowError", "unicode/utf8.first", "unicode/utf8.acceptRanges", "internal/bytealg.MaxLen"], apart := false, laid := [("unicode/utf8.acceptRanges", laid_unicode_utf8_acceptRanges), ("unicode/utf8.first", laid_unicode_utf8_first)] }
def RatFieldSaid : Prop := ratFieldRow.holds Tryd.pinned (OpenSpec.ofChange ratFieldSpec)

/-- ITS FALSE NEIGHBOUR: 'it returns false'. Refute it at one input. -/
def ratFieldWrong : ChangeSpec := { name := "ratField", fn := fun _ => fun
  | [d1, d2, d3] => { results := [.lit (.bool false)], args := [d1, d2, d3] }
  | _ => none }
def RatFieldWrongFalsely : Prop := ratFieldRow.holds Tryd.pinned (OpenSpec.ofChange ratFieldWrong)

/-- 'quincunxlaw07.RatAdds': WHATEVER THE INPUT: true; the input reads as it did. -/
def ratAddsSpec : ChangeSpec := { name := "ratAdds", fn := fun _ => fun
  | [d1, d2] => { results := [.lit (.bool true)], args := [d1, d2] }
  | _ => none }
def ratAddsRow : OpenClaim := { program := "ytkdonndeogihfaadoor", sum := "66cc6cf507d2a54ef0fdf263a8b0f2ef4bc362a49f74a63a7f0889b7a80102c0", func := "quincunx/quincunxlaw07.RatAdds", spec := "ratAdds", inPlace := ["math/bits.Add64", "math/bits.Sub64", "internal/bytealg.IndexByteString", "internal/bytealg.IndexString"], unfollowed := true, recurses := true, named := ["math/bits.divideError", "math/bits.overflowError", "unicode/utf8.first", "unicode/utf8.acceptRanges", "internal/bytealg.MaxLen"], apart := false, laid := [("unicode/utf8.acceptRanges", laid_unicode_utf8_acceptRanges), ("unicode/utf8.first", laid_unicode_utf8_first)] }
def RatAddsSaid : Prop := ratAddsRow.holds Tryd.pinned (OpenSpec.ofChange ratAddsSpec)

/-- ITS FALSE NEIGHBOUR: 'it returns false'. Refute it at one input. -/
def ratAddsWrong : ChangeSpec := { name := "ratAdds", fn := fun _ => fun
  | [d1, d2] => { results := [.lit (.bool false)], args := [d1, d2] }
  | _ => none }
def RatAddsWrongFalsely : Prop := ratAddsRow.holds Tryd.pinned (OpenSpec.ofChange ratAddsWrong)

/-- 'quincunxlaw05.IntTexts': WHATEVER THE INPUT: true; the input reads as it did. -/
def intTextsSpec : ChangeSpec := { name := "intTexts", fn := fun _ => fun
  | [d1, d2] => { results := [.lit (.bool true)], args := [d1, d2] }
  | _ => none }
def intTextsRow : OpenClaim := { program := "ytkdonndeogihfaadoor", sum := "66cc6cf507d2a54ef0fdf263a8b0f2ef4bc362a49f74a63a7f0889b7a80102c0", func := "quincunx/quincunxlaw05.IntTexts", spec := "intTexts", inPlace := ["math/bits.Add64", "math/bits.Sub64", "internal/bytealg.IndexByteString", "internal/bytealg.IndexString"], unfollowed := true, recurses := true, named := ["math/bits.divideError", "math/bits.overflowError", "unicode/utf8.first", "unicode/utf8.acceptRanges", "internal/bytealg.MaxLen"], apart := false, laid := [("unicode/utf8.acceptRanges", laid_unicode_utf8_acceptRanges), ("unicode/utf8.first", laid_unicode_utf8_first)] }
def IntTextsSaid : Prop := intTextsRow.holds Tryd.pinned (OpenSpec.ofChange intTextsSpec)

/-- ITS FALSE NEIGHBOUR: 'it returns false'. Refute it at one input. -/
def intTextsWrong : ChangeSpec := { name := "intTexts", fn := fun _ => fun
  | [d1, d2] => { results := [.lit (.bool false)], args := [d1, d2] }
  | _ => none }
def IntTextsWrongFalsely : Prop := intTextsRow.holds Tryd.pinned (OpenSpec.ofChange intTextsWrong)

/-- 'quincunxlaw07.RatRounds': WHATEVER THE INPUT: true; the input reads as it did. -/
def ratRoundsSpec : ChangeSpec := { name := "ratRounds", fn := fun _ => fun
  | [d] => { results := [.lit (.bool true)], args := [d] }
  | _ => none }
def ratRoundsRow : OpenClaim := { program := "ytkdonndeogihfaadoor", sum := "66cc6cf507d2a54ef0fdf263a8b0f2ef4bc362a49f74a63a7f0889b7a80102c0", func := "quincunx/quincunxlaw07.RatRounds", spec := "ratRounds", inPlace := ["math/bits.Add64", "math/bits.Sub64", "internal/bytealg.IndexByteString", "internal/bytealg.IndexString"], unfollowed := true, recurses := true, named := ["math/bits.divideError", "math/bits.overflowError", "unicode/utf8.first", "unicode/utf8.acceptRanges", "internal/bytealg.MaxLen"], apart := false, laid := [("unicode/utf8.acceptRanges", laid_unicode_utf8_acceptRanges), ("unicode/utf8.first", laid_unicode_utf8_first)] }
def RatRoundsSaid : Prop := ratRoundsRow.holds Tryd.pinned (OpenSpec.ofChange ratRoundsSpec)

/-- ITS FALSE NEIGHBOUR: 'it returns false'. Refute it at one input. -/
def ratRoundsWrong : ChangeSpec := { name := "ratRounds", fn := fun _ => fun
  | [d] => { results := [.lit (.bool false)], args := [d] }
  | _ => none }
def RatRoundsWrongFalsely : Prop := ratRoundsRow.holds Tryd.pinned (OpenSpec.ofChange ratRoundsWrong)

/-- 'quincunxlaw07.RatPowers': WHATEVER THE INPUT: true; the input reads as it did. -/
def ratPowersSpec : ChangeSpec := { name := "ratPowers", fn := fun _ => fun
  | [d1, d2] => { results := [.lit (.bool true)], args := [d1, d2] }
  | _ => none }
def ratPowersRow : OpenClaim := { program := "ytkdonndeogihfaadoor", sum := "66cc6cf507d2a54ef0fdf263a8b0f2ef4bc362a49f74a63a7f0889b7a80102c0", func := "quincunx/quincunxlaw07.RatPowers", spec := "ratPowers", inPlace := ["math/bits.Add64", "math/bits.Sub64", "internal/bytealg.IndexByteString", "internal/bytealg.IndexString"], unfollowed := true, recurses := true, named := ["math/bits.divideError", "math/bits.overflowError", "unicode/utf8.first", "unicode/utf8.acceptRanges", "internal/bytealg.MaxLen"], apart := false, laid := [("unicode/utf8.acceptRanges", laid_unicode_utf8_acceptRanges), ("unicode/utf8.first", laid_unicode_utf8_first)] }
def RatPowersSaid : Prop := ratPowersRow.holds Tryd.pinned (OpenSpec.ofChange ratPowersSpec)

/-- ITS FALSE NEIGHBOUR: 'it returns false'. Refute it at one input. -/
def ratPowersWrong : ChangeSpec := { name := "ratPowers", fn := fun _ => fun
  | [d1, d2] => { results := [.lit (.bool false)], args := [d1, d2] }
  | _ => none }
def RatPowersWrongFalsely : Prop := ratPowersRow.holds Tryd.pinned (OpenSpec.ofChange ratPowersWrong)

/-- 'quincunxlaw07.RatTexts': WHATEVER THE INPUT: true; the input reads as it did. -/
def ratTextsSpec : ChangeSpec := { name := "ratTexts", fn := fun _ => fun
  | [d1, d2] => { results := [.lit (.bool true)], args := [d1, d2] }
  | _ => none }
def ratTextsRow : OpenClaim := { program := "ytkdonndeogihfaadoor", sum := "66cc6cf507d2a54ef0fdf263a8b0f2ef4bc362a49f74a63a7f0889b7a80102c0", func := "quincunx/quincunxlaw07.RatTexts", spec := "ratTexts", inPlace := ["math/bits.Add64", "math/bits.Sub64", "internal/bytealg.IndexByteString", "internal/bytealg.IndexString"], unfollowed := true, recurses := true, named := ["math/bits.divideError", "math/bits.overflowError", "unicode/utf8.first", "unicode/utf8.acceptRanges", "internal/bytealg.MaxLen"], apart := false, laid := [("unicode/utf8.acceptRanges", laid_unicode_utf8_acceptRanges), ("unicode/utf8.first", laid_unicode_utf8_first)] }
def RatTextsSaid : Prop := ratTextsRow.holds Tryd.pinned (OpenSpec.ofChange ratTextsSpec)

/-- ITS FALSE NEIGHBOUR: 'it returns false'. Refute it at one input. -/
def ratTextsWrong : ChangeSpec := { name := "ratTexts", fn := fun _ => fun
  | [d1, d2] => { results := [.lit (.bool false)], args := [d1, d2] }
  | _ => none }
def RatTextsWrongFalsely : Prop := ratTextsRow.holds Tryd.pinned (OpenSpec.ofChange ratTextsWrong)

/- THE SECOND FORM. 'bulk': how many values and letters a reading holds, each counted each time it is reached (what is shared counts as often as it is met; a slice's spare places count too). A statement '..UptoSaid' is the law's where the arguments, and the package variables that the reading takes, are together of bulk at most 1048576: NARROWER than '..Said'. Prove '..Said' where nothing that the law and all that it calls make is longer than what came in: it says more and counts as full. Else prove '..UptoSaid'. A law counts once. -/
mutual
def uptoBulk {H : Type} : DataW H → Nat
  | .lit (.string bytes) => bytes.length + 1
  | .lit _ => 1
  | .nil => 1
  | .ptr d => uptoBulk d + 1
  | .slice elems spare => uptoBulkAll elems + uptoBulkAll spare + 1
  | .agg parts => uptoBulkAll parts + 1
  | .iface _ d => uptoBulk d + 1
  | .map entries => uptoBulkEntries entries + 1
  | .held _ => 1
def uptoBulkAll {H : Type} : List (DataW H) → Nat
  | [] => 0
  | d :: r => uptoBulk d + uptoBulkAll r
def uptoBulkEntries {H : Type} : List (Lit × DataW H) → Nat
  | [] => 0
  | x :: r => uptoBulkEntry x + uptoBulkEntries r
def uptoBulkEntry {H : Type} : Lit × DataW H → Nat
  | (.string bytes, d) => bytes.length + uptoBulk d + 1
  | (_, d) => uptoBulk d + 1
 end
def uptoSmall : (H : Type) → List (DataW H) → Bool := fun _ ds => decide (uptoBulkAll ds ≤ 1048576)
def OpenSpec.upto (s : _root_.Go.ChangeSpec) : _root_.Go.OpenSpec := { _root_.Go.OpenSpec.ofChange s with cond := some uptoSmall }

/-- 'quincunxlaw04.DecPrints', WHERE WHAT IT READS IS OF BULK AT MOST 1048576: true; the input reads as it did. -/
def decPrintsUptoRow : OpenClaim := { program := "ytkdonndeogihfaadoor", sum := "66cc6cf507d2a54ef0fdf263a8b0f2ef4bc362a49f74a63a7f0889b7a80102c0", func := "quincunx/quincunxlaw04.DecPrints", spec := "decPrints", inPlace := ["math/bits.Add64", "math/bits.Sub64", "internal/bytealg.IndexByteString", "internal/bytealg.IndexString"], unfollowed := true, recurses := true, named := ["math/bits.divideError", "math/bits.overflowError", "unicode/utf8.first", "unicode/utf8.acceptRanges", "internal/bytealg.MaxLen"], apart := false, laid := [("unicode/utf8.acceptRanges", laid_unicode_utf8_acceptRanges), ("unicode/utf8.first", laid_unicode_utf8_first)], narrowed := true }
def DecPrintsUptoSaid : Prop := decPrintsUptoRow.holds Tryd.pinned (OpenSpec.upto decPrintsSpec)

/-- 'quincunxlaw04.DecParses', WHERE WHAT IT READS IS OF BULK AT MOST 1048576: true; the input reads as it did. -/
def decParsesUptoRow : OpenClaim := { program := "ytkdonndeogihfaadoor", sum := "66cc6cf507d2a54ef0fdf263a8b0f2ef4bc362a49f74a63a7f0889b7a80102c0", func := "quincunx/quincunxlaw04.DecParses", spec := "decParses", inPlace := ["math/bits.Add64", "math/bits.Sub64", "internal/bytealg.IndexByteString", "internal/bytealg.IndexString"], unfollowed := true, recurses := true, named := ["math/bits.divideError", "math/bits.overflowError", "unicode/utf8.first", "unicode/utf8.acceptRanges", "internal/bytealg.MaxLen"], apart := false, laid := [("unicode/utf8.acceptRanges", laid_unicode_utf8_acceptRanges), ("unicode/utf8.first", laid_unicode_utf8_first)], narrowed := true }
def DecParsesUptoSaid : Prop := decParsesUptoRow.holds Tryd.pinned (OpenSpec.upto decParsesSpec)

/-- 'quincunxlaw04.DecBack', WHERE WHAT IT READS IS OF BULK AT MOST 1048576: true; the input reads as it did. -/
def decBackUptoRow : OpenClaim := { program := "ytkdonndeogihfaadoor", sum := "66cc6cf507d2a54ef0fdf263a8b0f2ef4bc362a49f74a63a7f0889b7a80102c0", func := "quincunx/quincunxlaw04.DecBack", spec := "decBack", inPlace := ["math/bits.Add64", "math/bits.Sub64", "internal/bytealg.IndexByteString", "internal/bytealg.IndexString"], unfollowed := true, recurses := true, named := ["math/bits.divideError", "math/bits.overflowError", "unicode/utf8.first", "unicode/utf8.acceptRanges", "internal/bytealg.MaxLen"], apart := false, laid := [("unicode/utf8.acceptRanges", laid_unicode_utf8_acceptRanges), ("unicode/utf8.first", laid_unicode_utf8_first)], narrowed := true }
def DecBackUptoSaid : Prop := decBackUptoRow.holds Tryd.pinned (OpenSpec.upto decBackSpec)

/-- 'quincunxlaw04.DecLong', WHERE WHAT IT READS IS OF BULK AT MOST 1048576: true; the input reads as it did. -/
def decLongUptoRow : OpenClaim := { program := "ytkdonndeogihfaadoor", sum := "66cc6cf507d2a54ef0fdf263a8b0f2ef4bc362a49f74a63a7f0889b7a80102c0", func := "quincunx/quincunxlaw04.DecLong", spec := "decLong", inPlace := ["math/bits.Add64", "math/bits.Sub64", "internal/bytealg.IndexByteString", "internal/bytealg.IndexString"], unfollowed := true, recurses := true, named := ["math/bits.divideError", "math/bits.overflowError", "unicode/utf8.first", "unicode/utf8.acceptRanges", "internal/bytealg.MaxLen"], apart := false, laid := [("unicode/utf8.acceptRanges", laid_unicode_utf8_acceptRanges), ("unicode/utf8.first", laid_unicode_utf8_first)], narrowed := true }
def DecLongUptoSaid : Prop := decLongUptoRow.holds Tryd.pinned (OpenSpec.upto decLongSpec)

/-- 'quincunxlaw04.DecSums', WHERE WHAT IT READS IS OF BULK AT MOST 1048576: true; the input reads as it did. -/
def decSumsUptoRow : OpenClaim := { program := "ytkdonndeogihfaadoor", sum := "66cc6cf507d2a54ef0fdf263a8b0f2ef4bc362a49f74a63a7f0889b7a80102c0", func := "quincunx/quincunxlaw04.DecSums", spec := "decSums", inPlace := ["math/bits.Add64", "math/bits.Sub64", "internal/bytealg.IndexByteString", "internal/bytealg.IndexString"], unfollowed := true, recurses := true, named := ["math/bits.divideError", "math/bits.overflowError", "unicode/utf8.first", "unicode/utf8.acceptRanges", "internal/bytealg.MaxLen"], apart := false, laid := [("unicode/utf8.acceptRanges", laid_unicode_utf8_acceptRanges), ("unicode/utf8.first", laid_unicode_utf8_first)], narrowed := true }
def DecSumsUptoSaid : Prop := decSumsUptoRow.holds Tryd.pinned (OpenSpec.upto decSumsSpec)

/-- 'quincunxlaw07.RatMakes', WHERE WHAT IT READS IS OF BULK AT MOST 1048576: true; the input reads as it did. -/
def ratMakesUptoRow : OpenClaim := { program := "ytkdonndeogihfaadoor", sum := "66cc6cf507d2a54ef0fdf263a8b0f2ef4bc362a49f74a63a7f0889b7a80102c0", func := "quincunx/quincunxlaw07.RatMakes", spec := "ratMakes", inPlace := ["math/bits.Add64", "math/bits.Sub64", "internal/bytealg.IndexByteString", "internal/bytealg.IndexString"], unfollowed := true, recurses := true, named := ["math/bits.divideError", "math/bits.overflowError", "unicode/utf8.first", "unicode/utf8.acceptRanges", "internal/bytealg.MaxLen"], apart := false, laid := [("unicode/utf8.acceptRanges", laid_unicode_utf8_acceptRanges), ("unicode/utf8.first", laid_unicode_utf8_first)], narrowed := true }
def RatMakesUptoSaid : Prop := ratMakesUptoRow.holds Tryd.pinned (OpenSpec.upto ratMakesSpec)

/-- 'quincunxlaw07.RatField', WHERE WHAT IT READS IS OF BULK AT MOST 1048576: true; the input reads as it did. -/
def ratFieldUptoRow : OpenClaim := { program := "ytkdonndeogihfaadoor", sum := "66cc6cf507d2a54ef0fdf263a8b0f2ef4bc362a49f74a63a7f0889b7a80102c0", func := "quincunx/quincunxlaw07.RatField", spec := "ratField", inPlace := ["math/bits.Add64", "math/bits.Sub64", "internal/bytealg.IndexByteString", "internal/bytealg.IndexString"], unfollowed := true, recurses := true, named := ["math/bits.divideError", "math/bits.overflowError", "unicode/utf8.first", "unicode/utf8.acceptRanges", "internal/bytealg.MaxLen"], apart := false, laid := [("unicode/utf8.acceptRanges", laid_unicode_utf8_acceptRanges), ("unicode/utf8.first", laid_unicode_utf8_first)], narrowed := true }
def RatFieldUptoSaid : Prop := ratFieldUptoRow.holds Tryd.pinned (OpenSpec.upto ratFieldSpec)

/-- 'quincunxlaw07.RatAdds', WHERE WHAT IT READS IS OF BULK AT MOST 1048576: true; the input reads as it did. -/
def ratAddsUptoRow : OpenClaim := { program := "ytkdonndeogihfaadoor", sum := "66cc6cf507d2a54ef0fdf263a8b0f2ef4bc362a49f74a63a7f0889b7a80102c0", func := "quincunx/quincunxlaw07.RatAdds", spec := "ratAdds", inPlace := ["math/bits.Add64", "math/bits.Sub64", "internal/bytealg.IndexByteString", "internal/bytealg.IndexString"], unfollowed := true, recurses := true, named := ["math/bits.divideError", "math/bits.overflowError", "unicode/utf8.first", "unicode/utf8.acceptRanges", "internal/bytealg.MaxLen"], apart := false, laid := [("unicode/utf8.acceptRanges", laid_unicode_utf8_acceptRanges), ("unicode/utf8.first", laid_unicode_utf8_first)], narrowed := true }
def RatAddsUptoSaid : Prop := ratAddsUptoRow.holds Tryd.pinned (OpenSpec.upto ratAddsSpec)

/-- 'quincunxlaw05.IntTexts', WHERE WHAT IT READS IS OF BULK AT MOST 1048576: true; the input reads as it did. -/
def intTextsUptoRow : OpenClaim := { program := "ytkdonndeogihfaadoor", sum := "66cc6cf507d2a54ef0fdf263a8b0f2ef4bc362a49f74a63a7f0889b7a80102c0", func := "quincunx/quincunxlaw05.IntTexts", spec := "intTexts", inPlace := ["math/bits.Add64", "math/bits.Sub64", "internal/bytealg.IndexByteString", "internal/bytealg.IndexString"], unfollowed := true, recurses := true, named := ["math/bits.divideError", "math/bits.overflowError", "unicode/utf8.first", "unicode/utf8.acceptRanges", "internal/bytealg.MaxLen"], apart := false, laid := [("unicode/utf8.acceptRanges", laid_unicode_utf8_acceptRanges), ("unicode/utf8.first", laid_unicode_utf8_first)], narrowed := true }
def IntTextsUptoSaid : Prop := intTextsUptoRow.holds Tryd.pinned (OpenSpec.upto intTextsSpec)

/-- 'quincunxlaw07.RatRounds', WHERE WHAT IT READS IS OF BULK AT MOST 1048576: true; the input reads as it did. -/
def ratRoundsUptoRow : OpenClaim := { program := "ytkdonndeogihfaadoor", sum := "66cc6cf507d2a54ef0fdf263a8b0f2ef4bc362a49f74a63a7f0889b7a80102c0", func := "quincunx/quincunxlaw07.RatRounds", spec := "ratRounds", inPlace := ["math/bits.Add64", "math/bits.Sub64", "internal/bytealg.IndexByteString", "internal/bytealg.IndexString"], unfollowed := true, recurses := true, named := ["math/bits.divideError", "math/bits.overflowError", "unicode/utf8.first", "unicode/utf8.acceptRanges", "internal/bytealg.MaxLen"], apart := false, laid := [("unicode/utf8.acceptRanges", laid_unicode_utf8_acceptRanges), ("unicode/utf8.first", laid_unicode_utf8_first)], narrowed := true }
def RatRoundsUptoSaid : Prop := ratRoundsUptoRow.holds Tryd.pinned (OpenSpec.upto ratRoundsSpec)

/-- 'quincunxlaw07.RatPowers', WHERE WHAT IT READS IS OF BULK AT MOST 1048576: true; the input reads as it did. -/
def ratPowersUptoRow : OpenClaim := { program := "ytkdonndeogihfaadoor", sum := "66cc6cf507d2a54ef0fdf263a8b0f2ef4bc362a49f74a63a7f0889b7a80102c0", func := "quincunx/quincunxlaw07.RatPowers", spec := "ratPowers", inPlace := ["math/bits.Add64", "math/bits.Sub64", "internal/bytealg.IndexByteString", "internal/bytealg.IndexString"], unfollowed := true, recurses := true, named := ["math/bits.divideError", "math/bits.overflowError", "unicode/utf8.first", "unicode/utf8.acceptRanges", "internal/bytealg.MaxLen"], apart := false, laid := [("unicode/utf8.acceptRanges", laid_unicode_utf8_acceptRanges), ("unicode/utf8.first", laid_unicode_utf8_first)], narrowed := true }
def RatPowersUptoSaid : Prop := ratPowersUptoRow.holds Tryd.pinned (OpenSpec.upto ratPowersSpec)

/-- 'quincunxlaw07.RatTexts', WHERE WHAT IT READS IS OF BULK AT MOST 1048576: true; the input reads as it did. -/
def ratTextsUptoRow : OpenClaim := { program := "ytkdonndeogihfaadoor", sum := "66cc6cf507d2a54ef0fdf263a8b0f2ef4bc362a49f74a63a7f0889b7a80102c0", func := "quincunx/quincunxlaw07.RatTexts", spec := "ratTexts", inPlace := ["math/bits.Add64", "math/bits.Sub64", "internal/bytealg.IndexByteString", "internal/bytealg.IndexString"], unfollowed := true, recurses := true, named := ["math/bits.divideError", "math/bits.overflowError", "unicode/utf8.first", "unicode/utf8.acceptRanges", "internal/bytealg.MaxLen"], apart := false, laid := [("unicode/utf8.acceptRanges", laid_unicode_utf8_acceptRanges), ("unicode/utf8.first", laid_unicode_utf8_first)], narrowed := true }
def RatTextsUptoSaid : Prop := ratTextsUptoRow.holds Tryd.pinned (OpenSpec.upto ratTextsSpec)

end Rows
end Go.Proofs.YtkdonndeogihfaaDoor
