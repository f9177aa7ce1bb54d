/-
  NARROWER THAN 'FOR EVERY INPUT', by the rows' own cells (each row's printed sentence says how): ParserPrints: loops, laid · ParserBack: laid.
  DERIVED. THE GIVEN ROWS OF THIS SEAT. 2 by the template 'for every input the law returns true; each argument reads behind the call as it read before'; 0 by the template 'total and deterministic' (their statements: YtlojipipibebaaaDoorTotals.lean).
  GIVEN WITH THE SEED: the statements are not yours to turn. If you find one false, say at which input.
  Laid BY PROGRAM, IN A SANDBOX (cutbox-rows.mjs): the forced cells as the released guide's own fill.sh prints them over the translation 29942e9bb5dfccbb… (all of the seat's roots in one cut). By AI agents, Wed Nov 11 2026. No macro, syntax, notation, axiom, sorry.
-/
import Derived.Test.YtlojipipibebaaaDoorChecked
import GoSem.Claim
import GoSem.ClaimJoined
import GoSem.ClaimMapViews
import Derived.JoinedTies
import Derived.KernelRfl
namespace Go.Proofs.YtlojipipibebaaaDoor
/- THE CELL 'sum', in the pinned program and in every row, IS THE sha256 OF THE DUMP (.gsa) THAT YtlojipipibebaaaDoorProg.lean LOADS. Nothing in Lean hashes anything: it is a label: what it is worth is what the hold of that sum in a sandbox is worth. -/
noncomputable def Tryd.pinned : Pinned := { name := "ytlojipipibebaaadoor", sum := "29942e9bb5dfccbb756aa3d6aeac2c0b4cbc544c5e9a34d0aa26ad1c8cdddc7f", checked := Tryd.checked }
namespace Rows
def none {H : Type} : Left H := { results := [], args := [] }

/- WHAT THE LISTED PACKAGE-LEVEL VARIABLES READ AS WHEN THE CALL BEGINS. Each datum BY PROGRAM (the guide's laid-datum.mjs) off the statement by which the dump's own 'gosem.cut.vars' lays the variable. In a bare row this is a premise. The card (YtlojipipibebaaaDoorCards.lean) ties it to the program's text. -/
def laid_quincunx_parser_signs {H : Type} : DataW H := .agg [.lit (.string []), .lit (.string []), .lit (.string []), .lit (.string []), .lit (.string [43]), .lit (.string [45]), .lit (.string [42]), .lit (.string [47]), .lit (.string [94]), .lit (.string [61, 61]), .lit (.string [33, 61]), .lit (.string [60]), .lit (.string [60, 61])]
def laid_quincunx_parser_sides {H : Type} : DataW H := .agg [.lit (.string []), .lit (.string []), .lit (.string []), .lit (.string [101]), .lit (.string [101, 101]), .lit (.string [101, 101]), .lit (.string [101, 101]), .lit (.string [101, 101]), .lit (.string [101, 101]), .lit (.string [101, 101]), .lit (.string [101, 101]), .lit (.string [101, 101]), .lit (.string [101, 101]), .lit (.string []), .lit (.string []), .lit (.string []), .lit (.string []), .lit (.string []), .lit (.string [101]), .lit (.string [101]), .lit (.string [101, 98]), .lit (.string [101, 101, 98]), .lit (.string [])]

/-- 'quincunxlaw28.ParserPrints': WHATEVER THE INPUT: true; the input reads as it did. -/
def parserPrintsSpec : ChangeSpec := { name := "parserPrints", fn := fun _ => fun
  | [d] => { results := [.lit (.bool true)], args := [d] }
  | _ => none }
def parserPrintsRow : OpenClaim := { program := "ytlojipipibebaaadoor", sum := "29942e9bb5dfccbb756aa3d6aeac2c0b4cbc544c5e9a34d0aa26ad1c8cdddc7f", func := "quincunx/quincunxlaw28.ParserPrints", spec := "parserPrints", inPlace := ["internal/bytealg.IndexByteString", "internal/bytealg.IndexString", "internal/abi.NoEscape", "internal/bytealg.MakeNoZero"], unfollowed := true, recurses := true, named := ["internal/bytealg.MaxLen", "quincunx/parser.sides", "quincunx/parser.signs"], loops := true, apart := false, laid := [("quincunx/parser.signs", laid_quincunx_parser_signs), ("quincunx/parser.sides", laid_quincunx_parser_sides)] }
def ParserPrintsSaid : Prop := parserPrintsRow.holds Tryd.pinned (OpenSpec.ofChange parserPrintsSpec)

/-- ITS FALSE NEIGHBOUR: 'it returns false'. Refute it at one input. -/
def parserPrintsWrong : ChangeSpec := { name := "parserPrints", fn := fun _ => fun
  | [d] => { results := [.lit (.bool false)], args := [d] }
  | _ => none }
def ParserPrintsWrongFalsely : Prop := parserPrintsRow.holds Tryd.pinned (OpenSpec.ofChange parserPrintsWrong)

/-- 'quincunxlaw28.ParserBack': WHATEVER THE INPUT: true; the input reads as it did. -/
def parserBackSpec : ChangeSpec := { name := "parserBack", fn := fun _ => fun
  | [d] => { results := [.lit (.bool true)], args := [d] }
  | _ => none }
def parserBackRow : OpenClaim := { program := "ytlojipipibebaaadoor", sum := "29942e9bb5dfccbb756aa3d6aeac2c0b4cbc544c5e9a34d0aa26ad1c8cdddc7f", func := "quincunx/quincunxlaw28.ParserBack", spec := "parserBack", inPlace := ["internal/bytealg.IndexByteString", "internal/bytealg.IndexString", "internal/abi.NoEscape", "internal/bytealg.MakeNoZero"], unfollowed := true, recurses := true, named := ["internal/bytealg.MaxLen", "quincunx/parser.sides", "quincunx/parser.signs"], apart := false, laid := [("quincunx/parser.signs", laid_quincunx_parser_signs), ("quincunx/parser.sides", laid_quincunx_parser_sides)] }
def ParserBackSaid : Prop := parserBackRow.holds Tryd.pinned (OpenSpec.ofChange parserBackSpec)

/-- ITS FALSE NEIGHBOUR: 'it returns false'. Refute it at one input. -/
def parserBackWrong : ChangeSpec := { name := "parserBack", fn := fun _ => fun
  | [d] => { results := [.lit (.bool false)], args := [d] }
  | _ => none }
def ParserBackWrongFalsely : Prop := parserBackRow.holds Tryd.pinned (OpenSpec.ofChange parserBackWrong)

/- THE SECOND FORM. 'bulk': how many values and letters a reading holds, each counted each time it is reached (what is shared counts as often as it is met; a slice's spare places count too). A statement '..UptoSaid' is the law's where the arguments, and the package variables that the reading takes, are together of bulk at most 1048576: NARROWER than '..Said'. Prove '..Said' where nothing that the law and all that it calls make is longer than what came in: it says more and counts as full. Else prove '..UptoSaid'. A law counts once. -/
mutual
def uptoBulk {H : Type} : DataW H → Nat
  | .lit (.string bytes) => bytes.length + 1
  | .lit _ => 1
  | .nil => 1
  | .ptr d => uptoBulk d + 1
  | .slice elems spare => uptoBulkAll elems + uptoBulkAll spare + 1
  | .agg parts => uptoBulkAll parts + 1
  | .iface _ d => uptoBulk d + 1
  | .map entries => uptoBulkEntries entries + 1
  | .held _ => 1
def uptoBulkAll {H : Type} : List (DataW H) → Nat
  | [] => 0
  | d :: r => uptoBulk d + uptoBulkAll r
def uptoBulkEntries {H : Type} : List (Lit × DataW H) → Nat
  | [] => 0
  | x :: r => uptoBulkEntry x + uptoBulkEntries r
def uptoBulkEntry {H : Type} : Lit × DataW H → Nat
  | (.string bytes, d) => bytes.length + uptoBulk d + 1
  | (_, d) => uptoBulk d + 1
 end
def uptoSmall : (H : Type) → List (DataW H) → Bool := fun _ ds => decide (uptoBulkAll ds ≤ 1048576)
def OpenSpec.upto (s : _root_.Go.ChangeSpec) : _root_.Go.OpenSpec := { _root_.Go.OpenSpec.ofChange s with cond := some uptoSmall }

/-- 'quincunxlaw28.ParserPrints', WHERE WHAT IT READS IS OF BULK AT MOST 1048576: true; the input reads as it did. -/
def parserPrintsUptoRow : OpenClaim := { program := "ytlojipipibebaaadoor", sum := "29942e9bb5dfccbb756aa3d6aeac2c0b4cbc544c5e9a34d0aa26ad1c8cdddc7f", func := "quincunx/quincunxlaw28.ParserPrints", spec := "parserPrints", inPlace := ["internal/bytealg.IndexByteString", "internal/bytealg.IndexString", "internal/abi.NoEscape", "internal/bytealg.MakeNoZero"], unfollowed := true, recurses := true, named := ["internal/bytealg.MaxLen", "quincunx/parser.sides", "quincunx/parser.signs"], loops := true, apart := false, laid := [("quincunx/parser.signs", laid_quincunx_parser_signs), ("quincunx/parser.sides", laid_quincunx_parser_sides)], narrowed := true }
def ParserPrintsUptoSaid : Prop := parserPrintsUptoRow.holds Tryd.pinned (OpenSpec.upto parserPrintsSpec)

/-- 'quincunxlaw28.ParserBack', WHERE WHAT IT READS IS OF BULK AT MOST 1048576: true; the input reads as it did. -/
def parserBackUptoRow : OpenClaim := { program := "ytlojipipibebaaadoor", sum := "29942e9bb5dfccbb756aa3d6aeac2c0b4cbc544c5e9a34d0aa26ad1c8cdddc7f", func := "quincunx/quincunxlaw28.ParserBack", spec := "parserBack", inPlace := ["internal/bytealg.IndexByteString", "internal/bytealg.IndexString", "internal/abi.NoEscape", "internal/bytealg.MakeNoZero"], unfollowed := true, recurses := true, named := ["internal/bytealg.MaxLen", "quincunx/parser.sides", "quincunx/parser.signs"], apart := false, laid := [("quincunx/parser.signs", laid_quincunx_parser_signs), ("quincunx/parser.sides", laid_quincunx_parser_sides)], narrowed := true }
def ParserBackUptoSaid : Prop := parserBackUptoRow.holds Tryd.pinned (OpenSpec.upto parserBackSpec)

end Rows
end Go.Proofs.YtlojipipibebaaaDoor
