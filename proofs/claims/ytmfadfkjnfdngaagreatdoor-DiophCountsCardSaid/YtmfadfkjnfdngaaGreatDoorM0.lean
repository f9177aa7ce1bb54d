import Derived.WalkKit
namespace SX
open Go
def glob : List (Nat × List Value) := []
def globI : List Nat := []
end SX
