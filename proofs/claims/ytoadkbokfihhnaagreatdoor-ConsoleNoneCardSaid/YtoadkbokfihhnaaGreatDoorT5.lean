/-
  Closed facts of the tie of the listed tables to the program's text, by the kernel: T5.
-/
import Derived.Test.YtoadkbokfihhnaaGreatDoorL
import Derived.LaidByTextLater
import Derived.KernelRfl
set_option linter.unusedVariables false
namespace Go.Proofs.YtoadkbokfihhnaaGreatDoor
open Go
theorem pinFirst : Tryz.pinned.checked.prog.pinnedFits "unicode/utf8.first" = true := by kernel_rfl
theorem noOwnUnsafe : Tryz.pinned.checked.prog.headLifts.contains "ownunsafe" = false := by kernel_rfl
end Go.Proofs.YtoadkbokfihhnaaGreatDoor
