/-
  Closed facts on the start at which the row of jalousielaw27.ScriptTells is met, by the kernel: W1.
-/
import Derived.Test.YtihlneenajlhoaaGreatDoorL
import Derived.KernelRfl
set_option linter.unusedVariables false
namespace Go.Proofs.YtihlneenajlhoaaGreatDoor
open Go
theorem wz1 (os : Os) : (w0 os).variablesZipB Tryz.prog = true := by kernel_rfl
end Go.Proofs.YtihlneenajlhoaaGreatDoor
/-
  Closed facts on the start at which the row of jalousielaw27.ScriptTells is met, by the kernel: W2.
-/
set_option linter.unusedVariables false
namespace Go.Proofs.YtihlneenajlhoaaGreatDoor
open Go
theorem wz2 (os : Os) : ((w0 os).heap.toList.drop Tryz.prog.globals.size).take ((begin Tryz.prog (fun _ _ => 0) default).world.heap.size - Tryz.prog.globals.size) = (begin Tryz.prog (fun _ _ => 0) default).world.heap.toList.drop Tryz.prog.globals.size := by kernel_rfl
end Go.Proofs.YtihlneenajlhoaaGreatDoor
