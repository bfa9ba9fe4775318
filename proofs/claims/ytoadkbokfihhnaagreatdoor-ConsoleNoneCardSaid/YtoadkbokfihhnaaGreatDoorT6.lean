/-
  Closed facts of the tie of the listed tables to the program's text, by the kernel: T6.
-/
import Derived.Test.YtoadkbokfihhnaaGreatDoorL
import Derived.LaidByTextLater
import Derived.KernelRfl
import Derived.Test.YtoadkbokfihhnaaGreatDoorT5
set_option linter.unusedVariables false
namespace Go.Proofs.YtoadkbokfihhnaaGreatDoor
open Go
theorem fits1 : Tryz.pinned.checked.prog.listedFits laidL = true := by
  unfold Program.listedFits
  rw [noOwnUnsafe]
  kernel_rfl
end Go.Proofs.YtoadkbokfihhnaaGreatDoor
