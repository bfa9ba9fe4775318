/-
 Closed facts of the row of jalousielaw27.ScriptBack over the program, part 1.
-/
import Derived.Test.YtihlneenajlhoaaGreatDoorRows
import Derived.JoinedOf
import Derived.KernelRfl
set_option linter.unusedVariables false
namespace Go.Proofs.YtihlneenajlhoaaGreatDoor
open Go
set_option maxRecDepth 1000000 in
theorem j2:(fun (P:Program) (f:FuncId) (fn:Func) (s:ChangeSpec) (c:OpenClaim)=>((mapsRowed P):Bool)) Tryz.prog 8 Tryz.f8 (Rows.OpenSpec.upto Rows.scriptBackSpec).bare Rows.scriptBackUptoRow=true:=by kernel_rfl
end Go.Proofs.YtihlneenajlhoaaGreatDoor
