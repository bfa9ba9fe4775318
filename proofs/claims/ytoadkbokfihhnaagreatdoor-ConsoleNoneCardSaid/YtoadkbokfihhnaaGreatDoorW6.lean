/-
  Closed facts on the start at which the row of jalousielaw29.ConsoleNone is met, by the kernel: W6.
-/
import Derived.Test.YtoadkbokfihhnaaGreatDoorL
import Derived.KernelRfl
set_option linter.unusedVariables false
namespace Go.Proofs.YtoadkbokfihhnaaGreatDoor
open Go
theorem row4 : (((begin Tryz.prog (fun _ _ => 0) default).world.heap[4]?).bind Obj.row?).map (·.2) = some 540 := by kernel_rfl
theorem own : ownKnob Tryz.prog.godebug = none := by kernel_rfl
theorem noInit : Tryz.checked.prog.inits.idxOf? 3 = none := by kernel_rfl
theorem gAscii : Tryz.prog.globalNamed "strings.asciiSpace" = some 4 := by kernel_rfl
end Go.Proofs.YtoadkbokfihhnaaGreatDoor
