/-
 Closed facts of the row of jalousielaw27.ScriptSpaces over the program, part 1.
-/
import Derived.Test.YtihlneenajlhoaaGreatDoorRows
import Derived.JoinedOf
import Derived.KernelRfl
set_option linter.unusedVariables false
namespace Go.Proofs.YtihlneenajlhoaaGreatDoor
open Go
set_option maxRecDepth 1000000 in
theorem j2:(fun (P:Program) (f:FuncId) (fn:Func) (s:ChangeSpec) (c:OpenClaim)=>((mapsRowed P):Bool)) Tryz.prog 6 Tryz.f6 (Rows.OpenSpec.upto Rows.scriptSpacesSpec).bare Rows.scriptSpacesUptoRow=true:=by kernel_rfl
end Go.Proofs.YtihlneenajlhoaaGreatDoor
