import Derived.WalkKit
namespace SX
open Go
def glob : List (Nat × List Value) := []
end SX
