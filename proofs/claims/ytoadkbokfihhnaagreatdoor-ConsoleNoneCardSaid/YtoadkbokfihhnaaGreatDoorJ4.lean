/-
  Closed facts of the row of jalousielaw29.ConsoleNone over the program, part 4.
-/
import Derived.Test.YtoadkbokfihhnaaGreatDoorRows
import Derived.JoinedOf
import Derived.KernelRfl
set_option linter.unusedVariables false
namespace Go.Proofs.YtoadkbokfihhnaaGreatDoor
open Go
set_option maxRecDepth 1000000 in
theorem j22 : (fun (P : Program) (f : FuncId) (fn : Func) (s : ChangeSpec) (c : OpenClaim) => (((c.plainKeys == P.plainKeys)) : Bool)) Tryz.prog 3 Tryz.f3 Rows.consoleNoneSpec Rows.consoleNoneRow = true := by kernel_rfl
end Go.Proofs.YtoadkbokfihhnaaGreatDoor
