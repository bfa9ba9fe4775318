/-
  Closed facts on the start at which the row of jalousielaw29.ConsoleNone is met, by the kernel: W2.
-/
import Derived.Test.YtoadkbokfihhnaaGreatDoorL
import Derived.KernelRfl
set_option linter.unusedVariables false
namespace Go.Proofs.YtoadkbokfihhnaaGreatDoor
open Go
theorem wz2 (os : Os) : ((w0 os).heap.toList.drop Tryz.prog.globals.size).take ((begin Tryz.prog (fun _ _ => 0) default).world.heap.size - Tryz.prog.globals.size) = (begin Tryz.prog (fun _ _ => 0) default).world.heap.toList.drop Tryz.prog.globals.size := by kernel_rfl
end Go.Proofs.YtoadkbokfihhnaaGreatDoor
