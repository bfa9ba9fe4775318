/-
  The plans of the drawn orders that end in other numbers.
-/
import Derived.Test.YtoadkbokfihhnaaGreatDoorAw3
set_option linter.unusedVariables false
namespace Go.Proofs.YtoadkbokfihhnaaGreatDoor
open Go Go.Proofs.YtoadkbokfihhnaaGreatDoor.ae
def hints : List (FuncId × Nat × Hint) := [
]
end Go.Proofs.YtoadkbokfihhnaaGreatDoor
