/-
  The run of jalousielaw29.ConsoleNone over known values: it hands back true.
-/
import Derived.Test.YtoadkbokfihhnaaGreatDoorAwX
import Derived.Test.YtoadkbokfihhnaaGreatDoorAwH
import Derived.Test.YtoadkbokfihhnaaGreatDoorAwR3
set_option linter.unusedVariables false
namespace Go.Proofs.YtoadkbokfihhnaaGreatDoor
open Go Go.Proofs.YtoadkbokfihhnaaGreatDoor.ae
theorem none_run : okB (evalCall Tryz.prog 5 rg (orF (rowF [row3]) ext3) (sp hints) noD 1000 60 3 [] hh0 5) (.bool true) = true := by kernel_rfl
end Go.Proofs.YtoadkbokfihhnaaGreatDoor
