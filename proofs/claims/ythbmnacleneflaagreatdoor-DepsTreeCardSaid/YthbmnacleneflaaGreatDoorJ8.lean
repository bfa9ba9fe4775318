/-
  Closed facts of the row of jalousielaw25.DepsTree over the program, part 8.
-/
import Derived.Test.YthbmnacleneflaaGreatDoorRows
import Derived.JoinedOf
import Derived.KernelRfl
set_option linter.unusedVariables false
namespace Go.Proofs.YthbmnacleneflaaGreatDoor
open Go
set_option maxRecDepth 1000000 in
theorem j27 : (fun (P : Program) (f : FuncId) (fn : Func) (s : ChangeSpec) (c : OpenClaim) => (((P.make == some c.make)) : Bool)) Tryz.prog 4 Tryz.f4 Rows.depsTreeSpec Rows.depsTreeRow = true := by kernel_rfl
end Go.Proofs.YthbmnacleneflaaGreatDoor
