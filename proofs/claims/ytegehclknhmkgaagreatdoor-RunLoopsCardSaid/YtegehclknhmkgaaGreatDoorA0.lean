import Derived.WalkKit
set_option linter.unusedVariables false
set_option linter.unusedSimpArgs false
namespace SX
open Go
def glob:List (Nat×List Value):=[]
def globI:List Nat:=[4]
end SX