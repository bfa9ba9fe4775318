/-
  Closed facts on the start at which the row of jalousielaw29.ConsoleNone is met, by the kernel: W5.
-/
import Derived.Test.YtoadkbokfihhnaaGreatDoorL
import Derived.KernelRfl
set_option linter.unusedVariables false
namespace Go.Proofs.YtoadkbokfihhnaaGreatDoor
open Go
theorem wf2 (os : Os) : (World.holding Tryz.prog os ⟨#[], #[], []⟩).layIfaces Tryz.prog laidL (World.laidAll Tryz.prog os laidL) = true := by kernel_rfl
theorem plainL : (laidL.all fun x => x.2.handleName?.isNone) = true := by kernel_rfl
end Go.Proofs.YtoadkbokfihhnaaGreatDoor
