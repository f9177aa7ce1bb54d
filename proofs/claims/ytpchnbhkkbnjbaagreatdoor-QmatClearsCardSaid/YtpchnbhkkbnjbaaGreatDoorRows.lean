/-
  NARROWER THAN 'FOR EVERY INPUT', by the rows' own cells (each row's printed sentence says how): QmatReduces: laid · QmatInverts: laid · QmatRows: laid · QmatClears: laid · QmatKernels: laid · QmatSolves: laid · QmatReckons: laid.
  DERIVED. THE GIVEN ROWS OF THIS SEAT. 7 by the template 'for every input the law returns true; each argument reads behind the call as it read before'; 0 by the template 'total and deterministic' (their statements: YtpchnbhkkbnjbaaGreatDoorTotals.lean).
  GIVEN WITH THE SEED: the statements are not yours to turn. If you find one false, say at which input.
  Laid BY PROGRAM, IN A SANDBOX (cutbox-rows.mjs): the forced cells as the released guide's own fill.sh prints them over the translation 981b47ce4a087034… (all of the seat's roots in one cut). By AI agents, Wed Nov 11 2026. No macro, syntax, notation, axiom, sorry.
-/
import Derived.Test.YtpchnbhkkbnjbaaGreatDoorChecked
import GoSem.PinnedTables
import GoSem.Claim
import GoSem.ClaimJoined
import GoSem.ClaimMapViews
import Derived.JoinedTies
import Derived.KernelRfl
namespace Go.Proofs.YtpchnbhkkbnjbaaGreatDoor
/- THE CELL 'sum', in the pinned program and in every row, IS THE sha256 OF THE DUMP (.gsa) THAT YtpchnbhkkbnjbaaGreatDoorProg.lean LOADS. Nothing in Lean hashes anything: it is a label: what it is worth is what the hold of that sum in a sandbox is worth. -/
noncomputable def Tryz.pinned : Pinned := { name := "ytpchnbhkkbnjbaagreatdoor", sum := "981b47ce4a087034e0973b9aea23f4efb5a5a074ac3c0890742b0ca5dc88fde4", checked := Tryz.checked }
namespace Rows
def none {H : Type} : Left H := { results := [], args := [] }

/- WHAT THE LISTED PACKAGE-LEVEL VARIABLES READ AS WHEN THE CALL BEGINS. Each datum BY PROGRAM (the guide's laid-datum.mjs) off the statement by which the dump's own 'gosem.cut.vars' lays the variable. In a bare row this is a premise. The card (YtpchnbhkkbnjbaaGreatDoorCards.lean) ties it to the program's text. -/
def laid_unicode_utf8_acceptRanges {H : Type} : DataW H := .agg [.agg [.lit (.int .u8 128), .lit (.int .u8 191)], .agg [.lit (.int .u8 160), .lit (.int .u8 191)], .agg [.lit (.int .u8 128), .lit (.int .u8 159)], .agg [.lit (.int .u8 144), .lit (.int .u8 191)], .agg [.lit (.int .u8 128), .lit (.int .u8 143)], .agg [.lit (.int .u8 0), .lit (.int .u8 0)], .agg [.lit (.int .u8 0), .lit (.int .u8 0)], .agg [.lit (.int .u8 0), .lit (.int .u8 0)], .agg [.lit (.int .u8 0), .lit (.int .u8 0)], .agg [.lit (.int .u8 0), .lit (.int .u8 0)], .agg [.lit (.int .u8 0), .lit (.int .u8 0)], .agg [.lit (.int .u8 0), .lit (.int .u8 0)], .agg [.lit (.int .u8 0), .lit (.int .u8 0)], .agg [.lit (.int .u8 0), .lit (.int .u8 0)], .agg [.lit (.int .u8 0), .lit (.int .u8 0)], .agg [.lit (.int .u8 0), .lit (.int .u8 0)]]
/-- One of Go's own tables, pinned by name: the form's constant. -/
def laid_unicode_utf8_first : DataW Unit := Go.Pinned.utf8First

/-- 'quincunxlaw13.QmatReduces': WHATEVER THE INPUT: true; the input reads as it did. -/
def qmatReducesSpec : ChangeSpec := { name := "qmatReduces", fn := fun _ => fun
  | [d] => { results := [.lit (.bool true)], args := [d] }
  | _ => none }
def qmatReducesRow : OpenClaim := { program := "ytpchnbhkkbnjbaagreatdoor", sum := "981b47ce4a087034e0973b9aea23f4efb5a5a074ac3c0890742b0ca5dc88fde4", func := "quincunx/quincunxlaw13.QmatReduces", spec := "qmatReduces", inPlace := ["math/bits.Add64", "math/bits.Sub64", "internal/bytealg.IndexByteString", "internal/bytealg.IndexString"], unfollowed := true, recurses := true, named := ["math/bits.divideError", "math/bits.overflowError", "unicode/utf8.first", "unicode/utf8.acceptRanges", "internal/bytealg.MaxLen"], apart := false, laid := [("unicode/utf8.acceptRanges", laid_unicode_utf8_acceptRanges), ("unicode/utf8.first", laid_unicode_utf8_first)] }
def QmatReducesSaid : Prop := qmatReducesRow.holds Tryz.pinned (OpenSpec.ofChange qmatReducesSpec)

/-- ITS FALSE NEIGHBOUR: 'it returns false'. Refute it at one input. -/
def qmatReducesWrong : ChangeSpec := { name := "qmatReduces", fn := fun _ => fun
  | [d] => { results := [.lit (.bool false)], args := [d] }
  | _ => none }
def QmatReducesWrongFalsely : Prop := qmatReducesRow.holds Tryz.pinned (OpenSpec.ofChange qmatReducesWrong)

/-- 'quincunxlaw13.QmatInverts': WHATEVER THE INPUT: true; the input reads as it did. -/
def qmatInvertsSpec : ChangeSpec := { name := "qmatInverts", fn := fun _ => fun
  | [d] => { results := [.lit (.bool true)], args := [d] }
  | _ => none }
def qmatInvertsRow : OpenClaim := { program := "ytpchnbhkkbnjbaagreatdoor", sum := "981b47ce4a087034e0973b9aea23f4efb5a5a074ac3c0890742b0ca5dc88fde4", func := "quincunx/quincunxlaw13.QmatInverts", spec := "qmatInverts", inPlace := ["math/bits.Add64", "math/bits.Sub64", "internal/bytealg.IndexByteString", "internal/bytealg.IndexString"], unfollowed := true, recurses := true, named := ["math/bits.divideError", "math/bits.overflowError", "unicode/utf8.first", "unicode/utf8.acceptRanges", "internal/bytealg.MaxLen"], apart := false, laid := [("unicode/utf8.acceptRanges", laid_unicode_utf8_acceptRanges), ("unicode/utf8.first", laid_unicode_utf8_first)] }
def QmatInvertsSaid : Prop := qmatInvertsRow.holds Tryz.pinned (OpenSpec.ofChange qmatInvertsSpec)

/-- ITS FALSE NEIGHBOUR: 'it returns false'. Refute it at one input. -/
def qmatInvertsWrong : ChangeSpec := { name := "qmatInverts", fn := fun _ => fun
  | [d] => { results := [.lit (.bool false)], args := [d] }
  | _ => none }
def QmatInvertsWrongFalsely : Prop := qmatInvertsRow.holds Tryz.pinned (OpenSpec.ofChange qmatInvertsWrong)

/-- 'quincunxlaw13.QmatRows': WHATEVER THE INPUT: true; the input reads as it did. -/
def qmatRowsSpec : ChangeSpec := { name := "qmatRows", fn := fun _ => fun
  | [d1, d2] => { results := [.lit (.bool true)], args := [d1, d2] }
  | _ => none }
def qmatRowsRow : OpenClaim := { program := "ytpchnbhkkbnjbaagreatdoor", sum := "981b47ce4a087034e0973b9aea23f4efb5a5a074ac3c0890742b0ca5dc88fde4", func := "quincunx/quincunxlaw13.QmatRows", spec := "qmatRows", inPlace := ["math/bits.Add64", "math/bits.Sub64", "internal/bytealg.IndexByteString", "internal/bytealg.IndexString"], unfollowed := true, recurses := true, named := ["math/bits.divideError", "math/bits.overflowError", "unicode/utf8.first", "unicode/utf8.acceptRanges", "internal/bytealg.MaxLen"], apart := false, laid := [("unicode/utf8.acceptRanges", laid_unicode_utf8_acceptRanges), ("unicode/utf8.first", laid_unicode_utf8_first)] }
def QmatRowsSaid : Prop := qmatRowsRow.holds Tryz.pinned (OpenSpec.ofChange qmatRowsSpec)

/-- ITS FALSE NEIGHBOUR: 'it returns false'. Refute it at one input. -/
def qmatRowsWrong : ChangeSpec := { name := "qmatRows", fn := fun _ => fun
  | [d1, d2] => { results := [.lit (.bool false)], args := [d1, d2] }
  | _ => none }
def QmatRowsWrongFalsely : Prop := qmatRowsRow.holds Tryz.pinned (OpenSpec.ofChange qmatRowsWrong)

/-- 'quincunxlaw13.QmatClears': WHATEVER THE INPUT: true; the input reads as it did. -/
def qmatClearsSpec : ChangeSpec := { name := "qmatClears", fn := fun _ => fun
  | [d1, d2, d3] => { results := [.lit (.bool true)], args := [d1, d2, d3] }
  | _ => none }
def qmatClearsRow : OpenClaim := { program := "ytpchnbhkkbnjbaagreatdoor", sum := "981b47ce4a087034e0973b9aea23f4efb5a5a074ac3c0890742b0ca5dc88fde4", func := "quincunx/quincunxlaw13.QmatClears", spec := "qmatClears", inPlace := ["math/bits.Add64", "math/bits.Sub64", "internal/bytealg.IndexByteString", "internal/bytealg.IndexString"], unfollowed := true, recurses := true, named := ["math/bits.divideError", "math/bits.overflowError", "unicode/utf8.first", "unicode/utf8.acceptRanges", "internal/bytealg.MaxLen"], apart := false, laid := [("unicode/utf8.acceptRanges", laid_unicode_utf8_acceptRanges), ("unicode/utf8.first", laid_unicode_utf8_first)] }
def QmatClearsSaid : Prop := qmatClearsRow.holds Tryz.pinned (OpenSpec.ofChange qmatClearsSpec)

/-- ITS FALSE NEIGHBOUR: 'it returns false'. Refute it at one input. -/
def qmatClearsWrong : ChangeSpec := { name := "qmatClears", fn := fun _ => fun
  | [d1, d2, d3] => { results := [.lit (.bool false)], args := [d1, d2, d3] }
  | _ => none }
def QmatClearsWrongFalsely : Prop := qmatClearsRow.holds Tryz.pinned (OpenSpec.ofChange qmatClearsWrong)

/-- 'quincunxlaw13.QmatKernels': WHATEVER THE INPUT: true; the input reads as it did. -/
def qmatKernelsSpec : ChangeSpec := { name := "qmatKernels", fn := fun _ => fun
  | [d] => { results := [.lit (.bool true)], args := [d] }
  | _ => none }
def qmatKernelsRow : OpenClaim := { program := "ytpchnbhkkbnjbaagreatdoor", sum := "981b47ce4a087034e0973b9aea23f4efb5a5a074ac3c0890742b0ca5dc88fde4", func := "quincunx/quincunxlaw13.QmatKernels", spec := "qmatKernels", inPlace := ["math/bits.Add64", "math/bits.Sub64", "internal/bytealg.IndexByteString", "internal/bytealg.IndexString"], unfollowed := true, recurses := true, named := ["math/bits.divideError", "math/bits.overflowError", "unicode/utf8.first", "unicode/utf8.acceptRanges", "internal/bytealg.MaxLen"], apart := false, laid := [("unicode/utf8.acceptRanges", laid_unicode_utf8_acceptRanges), ("unicode/utf8.first", laid_unicode_utf8_first)] }
def QmatKernelsSaid : Prop := qmatKernelsRow.holds Tryz.pinned (OpenSpec.ofChange qmatKernelsSpec)

/-- ITS FALSE NEIGHBOUR: 'it returns false'. Refute it at one input. -/
def qmatKernelsWrong : ChangeSpec := { name := "qmatKernels", fn := fun _ => fun
  | [d] => { results := [.lit (.bool false)], args := [d] }
  | _ => none }
def QmatKernelsWrongFalsely : Prop := qmatKernelsRow.holds Tryz.pinned (OpenSpec.ofChange qmatKernelsWrong)

/-- 'quincunxlaw13.QmatSolves': WHATEVER THE INPUT: true; the input reads as it did. -/
def qmatSolvesSpec : ChangeSpec := { name := "qmatSolves", fn := fun _ => fun
  | [d1, d2] => { results := [.lit (.bool true)], args := [d1, d2] }
  | _ => none }
def qmatSolvesRow : OpenClaim := { program := "ytpchnbhkkbnjbaagreatdoor", sum := "981b47ce4a087034e0973b9aea23f4efb5a5a074ac3c0890742b0ca5dc88fde4", func := "quincunx/quincunxlaw13.QmatSolves", spec := "qmatSolves", inPlace := ["math/bits.Add64", "math/bits.Sub64", "internal/bytealg.IndexByteString", "internal/bytealg.IndexString"], unfollowed := true, recurses := true, named := ["math/bits.divideError", "math/bits.overflowError", "unicode/utf8.first", "unicode/utf8.acceptRanges", "internal/bytealg.MaxLen"], apart := false, laid := [("unicode/utf8.acceptRanges", laid_unicode_utf8_acceptRanges), ("unicode/utf8.first", laid_unicode_utf8_first)] }
def QmatSolvesSaid : Prop := qmatSolvesRow.holds Tryz.pinned (OpenSpec.ofChange qmatSolvesSpec)

/-- ITS FALSE NEIGHBOUR: 'it returns false'. Refute it at one input. -/
def qmatSolvesWrong : ChangeSpec := { name := "qmatSolves", fn := fun _ => fun
  | [d1, d2] => { results := [.lit (.bool false)], args := [d1, d2] }
  | _ => none }
def QmatSolvesWrongFalsely : Prop := qmatSolvesRow.holds Tryz.pinned (OpenSpec.ofChange qmatSolvesWrong)

/-- 'quincunxlaw13.QmatReckons': WHATEVER THE INPUT: true; the input reads as it did. -/
def qmatReckonsSpec : ChangeSpec := { name := "qmatReckons", fn := fun _ => fun
  | [d1, d2, d3] => { results := [.lit (.bool true)], args := [d1, d2, d3] }
  | _ => none }
def qmatReckonsRow : OpenClaim := { program := "ytpchnbhkkbnjbaagreatdoor", sum := "981b47ce4a087034e0973b9aea23f4efb5a5a074ac3c0890742b0ca5dc88fde4", func := "quincunx/quincunxlaw13.QmatReckons", spec := "qmatReckons", inPlace := ["math/bits.Add64", "math/bits.Sub64", "internal/bytealg.IndexByteString", "internal/bytealg.IndexString"], unfollowed := true, recurses := true, named := ["math/bits.divideError", "math/bits.overflowError", "unicode/utf8.first", "unicode/utf8.acceptRanges", "internal/bytealg.MaxLen"], apart := false, laid := [("unicode/utf8.acceptRanges", laid_unicode_utf8_acceptRanges), ("unicode/utf8.first", laid_unicode_utf8_first)] }
def QmatReckonsSaid : Prop := qmatReckonsRow.holds Tryz.pinned (OpenSpec.ofChange qmatReckonsSpec)

/-- ITS FALSE NEIGHBOUR: 'it returns false'. Refute it at one input. -/
def qmatReckonsWrong : ChangeSpec := { name := "qmatReckons", fn := fun _ => fun
  | [d1, d2, d3] => { results := [.lit (.bool false)], args := [d1, d2, d3] }
  | _ => none }
def QmatReckonsWrongFalsely : Prop := qmatReckonsRow.holds Tryz.pinned (OpenSpec.ofChange qmatReckonsWrong)

/- THE SECOND FORM. 'bulk': how many values and letters a reading holds, each counted each time it is reached (what is shared counts as often as it is met; a slice's spare places count too). A statement '..UptoSaid' is the law's where the arguments, and the package variables that the reading takes, are together of bulk at most 1048576: NARROWER than '..Said'. Prove '..Said' where nothing that the law and all that it calls make is longer than what came in: it says more and counts as full. Else prove '..UptoSaid'. A law counts once. -/
mutual
def uptoBulk {H : Type} : DataW H → Nat
  | .lit (.string bytes) => bytes.length + 1
  | .lit _ => 1
  | .nil => 1
  | .ptr d => uptoBulk d + 1
  | .slice elems spare => uptoBulkAll elems + uptoBulkAll spare + 1
  | .agg parts => uptoBulkAll parts + 1
  | .iface _ d => uptoBulk d + 1
  | .map entries => uptoBulkEntries entries + 1
  | .held _ => 1
def uptoBulkAll {H : Type} : List (DataW H) → Nat
  | [] => 0
  | d :: r => uptoBulk d + uptoBulkAll r
def uptoBulkEntries {H : Type} : List (Lit × DataW H) → Nat
  | [] => 0
  | x :: r => uptoBulkEntry x + uptoBulkEntries r
def uptoBulkEntry {H : Type} : Lit × DataW H → Nat
  | (.string bytes, d) => bytes.length + uptoBulk d + 1
  | (_, d) => uptoBulk d + 1
 end
def uptoSmall : (H : Type) → List (DataW H) → Bool := fun _ ds => decide (uptoBulkAll ds ≤ 1048576)
def OpenSpec.upto (s : _root_.Go.ChangeSpec) : _root_.Go.OpenSpec := { _root_.Go.OpenSpec.ofChange s with cond := some uptoSmall }

/-- 'quincunxlaw13.QmatReduces', WHERE WHAT IT READS IS OF BULK AT MOST 1048576: true; the input reads as it did. -/
def qmatReducesUptoRow : OpenClaim := { program := "ytpchnbhkkbnjbaagreatdoor", sum := "981b47ce4a087034e0973b9aea23f4efb5a5a074ac3c0890742b0ca5dc88fde4", func := "quincunx/quincunxlaw13.QmatReduces", spec := "qmatReduces", inPlace := ["math/bits.Add64", "math/bits.Sub64", "internal/bytealg.IndexByteString", "internal/bytealg.IndexString"], unfollowed := true, recurses := true, named := ["math/bits.divideError", "math/bits.overflowError", "unicode/utf8.first", "unicode/utf8.acceptRanges", "internal/bytealg.MaxLen"], apart := false, laid := [("unicode/utf8.acceptRanges", laid_unicode_utf8_acceptRanges), ("unicode/utf8.first", laid_unicode_utf8_first)], narrowed := true }
def QmatReducesUptoSaid : Prop := qmatReducesUptoRow.holds Tryz.pinned (OpenSpec.upto qmatReducesSpec)

/-- 'quincunxlaw13.QmatInverts', WHERE WHAT IT READS IS OF BULK AT MOST 1048576: true; the input reads as it did. -/
def qmatInvertsUptoRow : OpenClaim := { program := "ytpchnbhkkbnjbaagreatdoor", sum := "981b47ce4a087034e0973b9aea23f4efb5a5a074ac3c0890742b0ca5dc88fde4", func := "quincunx/quincunxlaw13.QmatInverts", spec := "qmatInverts", inPlace := ["math/bits.Add64", "math/bits.Sub64", "internal/bytealg.IndexByteString", "internal/bytealg.IndexString"], unfollowed := true, recurses := true, named := ["math/bits.divideError", "math/bits.overflowError", "unicode/utf8.first", "unicode/utf8.acceptRanges", "internal/bytealg.MaxLen"], apart := false, laid := [("unicode/utf8.acceptRanges", laid_unicode_utf8_acceptRanges), ("unicode/utf8.first", laid_unicode_utf8_first)], narrowed := true }
def QmatInvertsUptoSaid : Prop := qmatInvertsUptoRow.holds Tryz.pinned (OpenSpec.upto qmatInvertsSpec)

/-- 'quincunxlaw13.QmatRows', WHERE WHAT IT READS IS OF BULK AT MOST 1048576: true; the input reads as it did. -/
def qmatRowsUptoRow : OpenClaim := { program := "ytpchnbhkkbnjbaagreatdoor", sum := "981b47ce4a087034e0973b9aea23f4efb5a5a074ac3c0890742b0ca5dc88fde4", func := "quincunx/quincunxlaw13.QmatRows", spec := "qmatRows", inPlace := ["math/bits.Add64", "math/bits.Sub64", "internal/bytealg.IndexByteString", "internal/bytealg.IndexString"], unfollowed := true, recurses := true, named := ["math/bits.divideError", "math/bits.overflowError", "unicode/utf8.first", "unicode/utf8.acceptRanges", "internal/bytealg.MaxLen"], apart := false, laid := [("unicode/utf8.acceptRanges", laid_unicode_utf8_acceptRanges), ("unicode/utf8.first", laid_unicode_utf8_first)], narrowed := true }
def QmatRowsUptoSaid : Prop := qmatRowsUptoRow.holds Tryz.pinned (OpenSpec.upto qmatRowsSpec)

/-- 'quincunxlaw13.QmatClears', WHERE WHAT IT READS IS OF BULK AT MOST 1048576: true; the input reads as it did. -/
def qmatClearsUptoRow : OpenClaim := { program := "ytpchnbhkkbnjbaagreatdoor", sum := "981b47ce4a087034e0973b9aea23f4efb5a5a074ac3c0890742b0ca5dc88fde4", func := "quincunx/quincunxlaw13.QmatClears", spec := "qmatClears", inPlace := ["math/bits.Add64", "math/bits.Sub64", "internal/bytealg.IndexByteString", "internal/bytealg.IndexString"], unfollowed := true, recurses := true, named := ["math/bits.divideError", "math/bits.overflowError", "unicode/utf8.first", "unicode/utf8.acceptRanges", "internal/bytealg.MaxLen"], apart := false, laid := [("unicode/utf8.acceptRanges", laid_unicode_utf8_acceptRanges), ("unicode/utf8.first", laid_unicode_utf8_first)], narrowed := true }
def QmatClearsUptoSaid : Prop := qmatClearsUptoRow.holds Tryz.pinned (OpenSpec.upto qmatClearsSpec)

/-- 'quincunxlaw13.QmatKernels', WHERE WHAT IT READS IS OF BULK AT MOST 1048576: true; the input reads as it did. -/
def qmatKernelsUptoRow : OpenClaim := { program := "ytpchnbhkkbnjbaagreatdoor", sum := "981b47ce4a087034e0973b9aea23f4efb5a5a074ac3c0890742b0ca5dc88fde4", func := "quincunx/quincunxlaw13.QmatKernels", spec := "qmatKernels", inPlace := ["math/bits.Add64", "math/bits.Sub64", "internal/bytealg.IndexByteString", "internal/bytealg.IndexString"], unfollowed := true, recurses := true, named := ["math/bits.divideError", "math/bits.overflowError", "unicode/utf8.first", "unicode/utf8.acceptRanges", "internal/bytealg.MaxLen"], apart := false, laid := [("unicode/utf8.acceptRanges", laid_unicode_utf8_acceptRanges), ("unicode/utf8.first", laid_unicode_utf8_first)], narrowed := true }
def QmatKernelsUptoSaid : Prop := qmatKernelsUptoRow.holds Tryz.pinned (OpenSpec.upto qmatKernelsSpec)

/-- 'quincunxlaw13.QmatSolves', WHERE WHAT IT READS IS OF BULK AT MOST 1048576: true; the input reads as it did. -/
def qmatSolvesUptoRow : OpenClaim := { program := "ytpchnbhkkbnjbaagreatdoor", sum := "981b47ce4a087034e0973b9aea23f4efb5a5a074ac3c0890742b0ca5dc88fde4", func := "quincunx/quincunxlaw13.QmatSolves", spec := "qmatSolves", inPlace := ["math/bits.Add64", "math/bits.Sub64", "internal/bytealg.IndexByteString", "internal/bytealg.IndexString"], unfollowed := true, recurses := true, named := ["math/bits.divideError", "math/bits.overflowError", "unicode/utf8.first", "unicode/utf8.acceptRanges", "internal/bytealg.MaxLen"], apart := false, laid := [("unicode/utf8.acceptRanges", laid_unicode_utf8_acceptRanges), ("unicode/utf8.first", laid_unicode_utf8_first)], narrowed := true }
def QmatSolvesUptoSaid : Prop := qmatSolvesUptoRow.holds Tryz.pinned (OpenSpec.upto qmatSolvesSpec)

/-- 'quincunxlaw13.QmatReckons', WHERE WHAT IT READS IS OF BULK AT MOST 1048576: true; the input reads as it did. -/
def qmatReckonsUptoRow : OpenClaim := { program := "ytpchnbhkkbnjbaagreatdoor", sum := "981b47ce4a087034e0973b9aea23f4efb5a5a074ac3c0890742b0ca5dc88fde4", func := "quincunx/quincunxlaw13.QmatReckons", spec := "qmatReckons", inPlace := ["math/bits.Add64", "math/bits.Sub64", "internal/bytealg.IndexByteString", "internal/bytealg.IndexString"], unfollowed := true, recurses := true, named := ["math/bits.divideError", "math/bits.overflowError", "unicode/utf8.first", "unicode/utf8.acceptRanges", "internal/bytealg.MaxLen"], apart := false, laid := [("unicode/utf8.acceptRanges", laid_unicode_utf8_acceptRanges), ("unicode/utf8.first", laid_unicode_utf8_first)], narrowed := true }
def QmatReckonsUptoSaid : Prop := qmatReckonsUptoRow.holds Tryz.pinned (OpenSpec.upto qmatReckonsSpec)

end Rows
end Go.Proofs.YtpchnbhkkbnjbaaGreatDoor
