/-
  Closed facts on the start at which the row of jalousielaw29.ConsoleNone is met, by the kernel: W4.
-/
import Derived.Test.YtoadkbokfihhnaaGreatDoorL
import Derived.KernelRfl
set_option linter.unusedVariables false
namespace Go.Proofs.YtoadkbokfihhnaaGreatDoor
open Go
theorem wf1 (os : Os) : (World.holding Tryz.prog os ⟨#[], #[], []⟩).layFits Tryz.prog laidL [] = true := by kernel_rfl
end Go.Proofs.YtoadkbokfihhnaaGreatDoor
