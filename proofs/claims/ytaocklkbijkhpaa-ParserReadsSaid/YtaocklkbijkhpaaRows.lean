/-
  No cell of these rows narrows 'for every input' (looked for: loops, veiled, ifaces, maps, wideKeys, modest, calm, conditions, laid).
  DERIVED. THE GIVEN ROWS OF THIS SEAT. 7 by the template 'for every input the law returns true; each argument reads behind the call as it read before'; 0 by the template 'total and deterministic' (their statements: YtaocklkbijkhpaaTotals.lean).
  GIVEN WITH THE SEED: the statements are not yours to turn. If you find one false, say at which input.
  Laid BY PROGRAM, IN A SANDBOX (cutbox-rows.mjs): the forced cells as the released guide's own fill.sh prints them over the translation fd4b4bed5e09e26a… (all of the seat's roots in one cut). By AI agents, Wed Nov 11 2026. No macro, syntax, notation, axiom, sorry.
-/
import Derived.Test.YtaocklkbijkhpaaChecked
import GoSem.Claim
import GoSem.ClaimJoined
import GoSem.ClaimMapViews
import Derived.JoinedTies
import Derived.KernelRfl
namespace Go.Proofs.Ytaocklkbijkhpaa
/- THE CELL 'sum', in the pinned program and in every row, IS THE sha256 OF THE DUMP (.gsa) THAT YtaocklkbijkhpaaProg.lean LOADS. Nothing in Lean hashes anything: it is a label: what it is worth is what the hold of that sum in a sandbox is worth. -/
noncomputable def Try.pinned : Pinned := { name := "ytaocklkbijkhpaa", sum := "fd4b4bed5e09e26a5d5229282c017fe5dc6437b758e01879ebd5e31d7be32bd6", checked := Try.checked }
namespace Rows
def none {H : Type} : Left H := { results := [], args := [] }

/-- 'quincunxlaw27.LexerPlaces': WHATEVER THE INPUT: true; the input reads as it did. -/
def lexerPlacesSpec : ChangeSpec := { name := "lexerPlaces", fn := fun _ => fun
  | [d] => { results := [.lit (.bool true)], args := [d] }
  | _ => none }
def lexerPlacesRow : OpenClaim := { program := "ytaocklkbijkhpaa", sum := "fd4b4bed5e09e26a5d5229282c017fe5dc6437b758e01879ebd5e31d7be32bd6", func := "quincunx/quincunxlaw27.LexerPlaces", spec := "lexerPlaces", inPlace := ["internal/bytealg.IndexByteString", "internal/bytealg.IndexString"], named := ["internal/bytealg.MaxLen"], apart := false }
def LexerPlacesSaid : Prop := lexerPlacesRow.holds Try.pinned (OpenSpec.ofChange lexerPlacesSpec)

/-- ITS FALSE NEIGHBOUR: 'it returns false'. Refute it at one input. -/
def lexerPlacesWrong : ChangeSpec := { name := "lexerPlaces", fn := fun _ => fun
  | [d] => { results := [.lit (.bool false)], args := [d] }
  | _ => none }
def LexerPlacesWrongFalsely : Prop := lexerPlacesRow.holds Try.pinned (OpenSpec.ofChange lexerPlacesWrong)

/-- 'quincunxlaw27.LexerIs': WHATEVER THE INPUT: true; the input reads as it did. -/
def lexerIsSpec : ChangeSpec := { name := "lexerIs", fn := fun _ => fun
  | [d] => { results := [.lit (.bool true)], args := [d] }
  | _ => none }
def lexerIsRow : OpenClaim := { program := "ytaocklkbijkhpaa", sum := "fd4b4bed5e09e26a5d5229282c017fe5dc6437b758e01879ebd5e31d7be32bd6", func := "quincunx/quincunxlaw27.LexerIs", spec := "lexerIs", inPlace := ["internal/bytealg.IndexByteString", "internal/bytealg.IndexString"], named := ["internal/bytealg.MaxLen"], apart := false }
def LexerIsSaid : Prop := lexerIsRow.holds Try.pinned (OpenSpec.ofChange lexerIsSpec)

/-- ITS FALSE NEIGHBOUR: 'it returns false'. Refute it at one input. -/
def lexerIsWrong : ChangeSpec := { name := "lexerIs", fn := fun _ => fun
  | [d] => { results := [.lit (.bool false)], args := [d] }
  | _ => none }
def LexerIsWrongFalsely : Prop := lexerIsRow.holds Try.pinned (OpenSpec.ofChange lexerIsWrong)

/-- 'quincunxlaw27.LexerBack': WHATEVER THE INPUT: true; the input reads as it did. -/
def lexerBackSpec : ChangeSpec := { name := "lexerBack", fn := fun _ => fun
  | [d] => { results := [.lit (.bool true)], args := [d] }
  | _ => none }
def lexerBackRow : OpenClaim := { program := "ytaocklkbijkhpaa", sum := "fd4b4bed5e09e26a5d5229282c017fe5dc6437b758e01879ebd5e31d7be32bd6", func := "quincunx/quincunxlaw27.LexerBack", spec := "lexerBack", inPlace := ["internal/bytealg.IndexByteString", "internal/bytealg.IndexString", "internal/abi.NoEscape", "internal/bytealg.MakeNoZero"], named := ["internal/bytealg.MaxLen"], apart := false }
def LexerBackSaid : Prop := lexerBackRow.holds Try.pinned (OpenSpec.ofChange lexerBackSpec)

/-- ITS FALSE NEIGHBOUR: 'it returns false'. Refute it at one input. -/
def lexerBackWrong : ChangeSpec := { name := "lexerBack", fn := fun _ => fun
  | [d] => { results := [.lit (.bool false)], args := [d] }
  | _ => none }
def LexerBackWrongFalsely : Prop := lexerBackRow.holds Try.pinned (OpenSpec.ofChange lexerBackWrong)

/-- 'quincunxlaw27.LexerAgain': WHATEVER THE INPUT: true; the input reads as it did. -/
def lexerAgainSpec : ChangeSpec := { name := "lexerAgain", fn := fun _ => fun
  | [d] => { results := [.lit (.bool true)], args := [d] }
  | _ => none }
def lexerAgainRow : OpenClaim := { program := "ytaocklkbijkhpaa", sum := "fd4b4bed5e09e26a5d5229282c017fe5dc6437b758e01879ebd5e31d7be32bd6", func := "quincunx/quincunxlaw27.LexerAgain", spec := "lexerAgain", inPlace := ["internal/bytealg.IndexByteString", "internal/bytealg.IndexString", "internal/abi.NoEscape", "internal/bytealg.MakeNoZero"], named := ["internal/bytealg.MaxLen"], apart := false }
def LexerAgainSaid : Prop := lexerAgainRow.holds Try.pinned (OpenSpec.ofChange lexerAgainSpec)

/-- ITS FALSE NEIGHBOUR: 'it returns false'. Refute it at one input. -/
def lexerAgainWrong : ChangeSpec := { name := "lexerAgain", fn := fun _ => fun
  | [d] => { results := [.lit (.bool false)], args := [d] }
  | _ => none }
def LexerAgainWrongFalsely : Prop := lexerAgainRow.holds Try.pinned (OpenSpec.ofChange lexerAgainWrong)

/-- 'quincunxlaw28.ParserDepths': WHATEVER THE INPUT: true; the input reads as it did. -/
def parserDepthsSpec : ChangeSpec := { name := "parserDepths", fn := fun _ => fun
  | [d1, d2] => { results := [.lit (.bool true)], args := [d1, d2] }
  | _ => none }
def parserDepthsRow : OpenClaim := { program := "ytaocklkbijkhpaa", sum := "fd4b4bed5e09e26a5d5229282c017fe5dc6437b758e01879ebd5e31d7be32bd6", func := "quincunx/quincunxlaw28.ParserDepths", spec := "parserDepths", inPlace := ["internal/bytealg.IndexByteString", "internal/bytealg.IndexString"], unfollowed := true, recurses := true, named := ["internal/bytealg.MaxLen"], apart := false }
def ParserDepthsSaid : Prop := parserDepthsRow.holds Try.pinned (OpenSpec.ofChange parserDepthsSpec)

/-- ITS FALSE NEIGHBOUR: 'it returns false'. Refute it at one input. -/
def parserDepthsWrong : ChangeSpec := { name := "parserDepths", fn := fun _ => fun
  | [d1, d2] => { results := [.lit (.bool false)], args := [d1, d2] }
  | _ => none }
def ParserDepthsWrongFalsely : Prop := parserDepthsRow.holds Try.pinned (OpenSpec.ofChange parserDepthsWrong)

/-- 'quincunxlaw28.ParserOpen': WHATEVER THE INPUT: true; the input reads as it did. -/
def parserOpenSpec : ChangeSpec := { name := "parserOpen", fn := fun _ => fun
  | [d1, d2] => { results := [.lit (.bool true)], args := [d1, d2] }
  | _ => none }
def parserOpenRow : OpenClaim := { program := "ytaocklkbijkhpaa", sum := "fd4b4bed5e09e26a5d5229282c017fe5dc6437b758e01879ebd5e31d7be32bd6", func := "quincunx/quincunxlaw28.ParserOpen", spec := "parserOpen", inPlace := ["internal/bytealg.IndexByteString", "internal/bytealg.IndexString"], unfollowed := true, recurses := true, named := ["internal/bytealg.MaxLen"], apart := false }
def ParserOpenSaid : Prop := parserOpenRow.holds Try.pinned (OpenSpec.ofChange parserOpenSpec)

/-- ITS FALSE NEIGHBOUR: 'it returns false'. Refute it at one input. -/
def parserOpenWrong : ChangeSpec := { name := "parserOpen", fn := fun _ => fun
  | [d1, d2] => { results := [.lit (.bool false)], args := [d1, d2] }
  | _ => none }
def ParserOpenWrongFalsely : Prop := parserOpenRow.holds Try.pinned (OpenSpec.ofChange parserOpenWrong)

/-- 'quincunxlaw28.ParserReads': WHATEVER THE INPUT: true; the input reads as it did. -/
def parserReadsSpec : ChangeSpec := { name := "parserReads", fn := fun _ => fun
  | [d1, d2] => { results := [.lit (.bool true)], args := [d1, d2] }
  | _ => none }
def parserReadsRow : OpenClaim := { program := "ytaocklkbijkhpaa", sum := "fd4b4bed5e09e26a5d5229282c017fe5dc6437b758e01879ebd5e31d7be32bd6", func := "quincunx/quincunxlaw28.ParserReads", spec := "parserReads", inPlace := ["internal/bytealg.IndexByteString", "internal/bytealg.IndexString"], unfollowed := true, recurses := true, named := ["internal/bytealg.MaxLen"], apart := false }
def ParserReadsSaid : Prop := parserReadsRow.holds Try.pinned (OpenSpec.ofChange parserReadsSpec)

/-- ITS FALSE NEIGHBOUR: 'it returns false'. Refute it at one input. -/
def parserReadsWrong : ChangeSpec := { name := "parserReads", fn := fun _ => fun
  | [d1, d2] => { results := [.lit (.bool false)], args := [d1, d2] }
  | _ => none }
def ParserReadsWrongFalsely : Prop := parserReadsRow.holds Try.pinned (OpenSpec.ofChange parserReadsWrong)

/- THE SECOND FORM. 'bulk': how many values and letters a reading holds, each counted each time it is reached (what is shared counts as often as it is met; a slice's spare places count too). A statement '..UptoSaid' is the law's where the arguments, and the package variables that the reading takes, are together of bulk at most 1048576: NARROWER than '..Said'. Prove '..Said' where nothing that the law and all that it calls make is longer than what came in: it says more and counts as full. Else prove '..UptoSaid'. A law counts once. -/
mutual
def uptoBulk {H : Type} : DataW H → Nat
  | .lit (.string bytes) => bytes.length + 1
  | .lit _ => 1
  | .nil => 1
  | .ptr d => uptoBulk d + 1
  | .slice elems spare => uptoBulkAll elems + uptoBulkAll spare + 1
  | .agg parts => uptoBulkAll parts + 1
  | .iface _ d => uptoBulk d + 1
  | .map entries => uptoBulkEntries entries + 1
  | .held _ => 1
def uptoBulkAll {H : Type} : List (DataW H) → Nat
  | [] => 0
  | d :: r => uptoBulk d + uptoBulkAll r
def uptoBulkEntries {H : Type} : List (Lit × DataW H) → Nat
  | [] => 0
  | x :: r => uptoBulkEntry x + uptoBulkEntries r
def uptoBulkEntry {H : Type} : Lit × DataW H → Nat
  | (.string bytes, d) => bytes.length + uptoBulk d + 1
  | (_, d) => uptoBulk d + 1
 end
def uptoSmall : (H : Type) → List (DataW H) → Bool := fun _ ds => decide (uptoBulkAll ds ≤ 1048576)
def OpenSpec.upto (s : _root_.Go.ChangeSpec) : _root_.Go.OpenSpec := { _root_.Go.OpenSpec.ofChange s with cond := some uptoSmall }

/-- 'quincunxlaw27.LexerPlaces', WHERE WHAT IT READS IS OF BULK AT MOST 1048576: true; the input reads as it did. -/
def lexerPlacesUptoRow : OpenClaim := { program := "ytaocklkbijkhpaa", sum := "fd4b4bed5e09e26a5d5229282c017fe5dc6437b758e01879ebd5e31d7be32bd6", func := "quincunx/quincunxlaw27.LexerPlaces", spec := "lexerPlaces", inPlace := ["internal/bytealg.IndexByteString", "internal/bytealg.IndexString"], named := ["internal/bytealg.MaxLen"], apart := false, narrowed := true }
def LexerPlacesUptoSaid : Prop := lexerPlacesUptoRow.holds Try.pinned (OpenSpec.upto lexerPlacesSpec)

/-- 'quincunxlaw27.LexerIs', WHERE WHAT IT READS IS OF BULK AT MOST 1048576: true; the input reads as it did. -/
def lexerIsUptoRow : OpenClaim := { program := "ytaocklkbijkhpaa", sum := "fd4b4bed5e09e26a5d5229282c017fe5dc6437b758e01879ebd5e31d7be32bd6", func := "quincunx/quincunxlaw27.LexerIs", spec := "lexerIs", inPlace := ["internal/bytealg.IndexByteString", "internal/bytealg.IndexString"], named := ["internal/bytealg.MaxLen"], apart := false, narrowed := true }
def LexerIsUptoSaid : Prop := lexerIsUptoRow.holds Try.pinned (OpenSpec.upto lexerIsSpec)

/-- 'quincunxlaw27.LexerBack', WHERE WHAT IT READS IS OF BULK AT MOST 1048576: true; the input reads as it did. -/
def lexerBackUptoRow : OpenClaim := { program := "ytaocklkbijkhpaa", sum := "fd4b4bed5e09e26a5d5229282c017fe5dc6437b758e01879ebd5e31d7be32bd6", func := "quincunx/quincunxlaw27.LexerBack", spec := "lexerBack", inPlace := ["internal/bytealg.IndexByteString", "internal/bytealg.IndexString", "internal/abi.NoEscape", "internal/bytealg.MakeNoZero"], named := ["internal/bytealg.MaxLen"], apart := false, narrowed := true }
def LexerBackUptoSaid : Prop := lexerBackUptoRow.holds Try.pinned (OpenSpec.upto lexerBackSpec)

/-- 'quincunxlaw27.LexerAgain', WHERE WHAT IT READS IS OF BULK AT MOST 1048576: true; the input reads as it did. -/
def lexerAgainUptoRow : OpenClaim := { program := "ytaocklkbijkhpaa", sum := "fd4b4bed5e09e26a5d5229282c017fe5dc6437b758e01879ebd5e31d7be32bd6", func := "quincunx/quincunxlaw27.LexerAgain", spec := "lexerAgain", inPlace := ["internal/bytealg.IndexByteString", "internal/bytealg.IndexString", "internal/abi.NoEscape", "internal/bytealg.MakeNoZero"], named := ["internal/bytealg.MaxLen"], apart := false, narrowed := true }
def LexerAgainUptoSaid : Prop := lexerAgainUptoRow.holds Try.pinned (OpenSpec.upto lexerAgainSpec)

/-- 'quincunxlaw28.ParserDepths', WHERE WHAT IT READS IS OF BULK AT MOST 1048576: true; the input reads as it did. -/
def parserDepthsUptoRow : OpenClaim := { program := "ytaocklkbijkhpaa", sum := "fd4b4bed5e09e26a5d5229282c017fe5dc6437b758e01879ebd5e31d7be32bd6", func := "quincunx/quincunxlaw28.ParserDepths", spec := "parserDepths", inPlace := ["internal/bytealg.IndexByteString", "internal/bytealg.IndexString"], unfollowed := true, recurses := true, named := ["internal/bytealg.MaxLen"], apart := false, narrowed := true }
def ParserDepthsUptoSaid : Prop := parserDepthsUptoRow.holds Try.pinned (OpenSpec.upto parserDepthsSpec)

/-- 'quincunxlaw28.ParserOpen', WHERE WHAT IT READS IS OF BULK AT MOST 1048576: true; the input reads as it did. -/
def parserOpenUptoRow : OpenClaim := { program := "ytaocklkbijkhpaa", sum := "fd4b4bed5e09e26a5d5229282c017fe5dc6437b758e01879ebd5e31d7be32bd6", func := "quincunx/quincunxlaw28.ParserOpen", spec := "parserOpen", inPlace := ["internal/bytealg.IndexByteString", "internal/bytealg.IndexString"], unfollowed := true, recurses := true, named := ["internal/bytealg.MaxLen"], apart := false, narrowed := true }
def ParserOpenUptoSaid : Prop := parserOpenUptoRow.holds Try.pinned (OpenSpec.upto parserOpenSpec)

/-- 'quincunxlaw28.ParserReads', WHERE WHAT IT READS IS OF BULK AT MOST 1048576: true; the input reads as it did. -/
def parserReadsUptoRow : OpenClaim := { program := "ytaocklkbijkhpaa", sum := "fd4b4bed5e09e26a5d5229282c017fe5dc6437b758e01879ebd5e31d7be32bd6", func := "quincunx/quincunxlaw28.ParserReads", spec := "parserReads", inPlace := ["internal/bytealg.IndexByteString", "internal/bytealg.IndexString"], unfollowed := true, recurses := true, named := ["internal/bytealg.MaxLen"], apart := false, narrowed := true }
def ParserReadsUptoSaid : Prop := parserReadsUptoRow.holds Try.pinned (OpenSpec.upto parserReadsSpec)

end Rows
end Go.Proofs.Ytaocklkbijkhpaa
