/-
  Closed facts of the row of jalousielaw25.DepsClosure over the program, part 0.
-/
import Derived.Test.YthbmnacleneflaaGreatDoorRows
import Derived.JoinedOf
import Derived.KernelRfl
set_option linter.unusedVariables false
namespace Go.Proofs.YthbmnacleneflaaGreatDoor
open Go
set_option maxRecDepth 1000000 in
theorem j0 : (fun (P : Program) (f : FuncId) (fn : Func) (s : ChangeSpec) (c : OpenClaim) => ((c.wf (OpenSpec.ofChange s)) : Bool)) Tryz.prog 3 Tryz.f3 Rows.depsClosureSpec Rows.depsClosureRow = true := by kernel_rfl
end Go.Proofs.YthbmnacleneflaaGreatDoor
