/-
  Closed facts on the start at which the row of jalousielaw29.ConsoleNone is met, by the kernel: W1.
-/
import Derived.Test.YtoadkbokfihhnaaGreatDoorL
import Derived.KernelRfl
set_option linter.unusedVariables false
namespace Go.Proofs.YtoadkbokfihhnaaGreatDoor
open Go
theorem wz1 (os : Os) : (w0 os).variablesZipB Tryz.prog = true := by kernel_rfl
end Go.Proofs.YtoadkbokfihhnaaGreatDoor
