import Derived.Test.YtaocklkbijkhpaaE2
import Derived.Test.YtaocklkbijkhpaaIn
/- Tokens that come in. -/
set_option linter.unusedVariables false
set_option linter.unusedSimpArgs false
namespace Go.Proofs.Ytaocklkbijkhpaa
open Go.RowKit SX
open Go.ChangeShapes Go.WideShapes Go.ChangeAt Go.Joins
section
variable {H : Type} {enc : TypeId × Value → H} {W : World} {base : Nat} {sp : Nat → Bool} {hd : Bool}
theorem decTok (n : Nat) : DecF enc Try.prog W base sp hd n 28 tokC (fun t => t.text.length ≤ maxLen) :=
  DecF.all (fun n => DecF.conv (dec_struct3 Try.underlying28 rfl (by kernel_rfl) (by kernel_rfl) (by kernel_rfl) (dec_int Try.underlying3) (dec_str Try.underlying9) (dec_int Try.underlying3)) (fun p => (⟨p.1, p.2.1, p.2.2⟩ : Tok)) (fun p h => h.2.1) (fun p => rfl)) n
theorem decToks (n : Nat) : DecF enc Try.prog W base sp hd n 23 (fun l : List Tok => [.sat (rowR 3 tokC l)]) (fun l => l.length ≤ maxLen ∧ ∀ a ∈ l, a.text.length ≤ maxLen) :=
  DecF.all (fun n => dec_slice Try.underlying23 (by kernel_rfl) (decTok n)) n
end
end Go.Proofs.Ytaocklkbijkhpaa
