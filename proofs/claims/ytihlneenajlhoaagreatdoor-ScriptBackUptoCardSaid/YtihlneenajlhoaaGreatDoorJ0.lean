/-
 Closed facts of the row of jalousielaw27.ScriptBack over the program, part 0.
-/
import Derived.Test.YtihlneenajlhoaaGreatDoorRows
import Derived.JoinedOf
import Derived.KernelRfl
set_option linter.unusedVariables false
namespace Go.Proofs.YtihlneenajlhoaaGreatDoor
open Go
set_option maxRecDepth 1000000 in
theorem j0:(fun (P:Program) (f:FuncId) (fn:Func) (s:ChangeSpec) (c:OpenClaim)=>((c.wf (OpenSpec.ofChange s)):Bool)) Tryz.prog 8 Tryz.f8 (Rows.OpenSpec.upto Rows.scriptBackSpec).bare Rows.scriptBackUptoRow=true:=by kernel_rfl
set_option maxRecDepth 1000000 in
theorem j6:(fun (P:Program) (f:FuncId) (fn:Func) (s:ChangeSpec) (c:OpenClaim)=>(((P.stops==[])):Bool)) Tryz.prog 8 Tryz.f8 (Rows.OpenSpec.upto Rows.scriptBackSpec).bare Rows.scriptBackUptoRow=true:=by kernel_rfl
set_option maxRecDepth 1000000 in
theorem j8:(fun (P:Program) (f:FuncId) (fn:Func) (s:ChangeSpec) (c:OpenClaim)=>(((P.stopKnobs==[])):Bool)) Tryz.prog 8 Tryz.f8 (Rows.OpenSpec.upto Rows.scriptBackSpec).bare Rows.scriptBackUptoRow=true:=by kernel_rfl
set_option maxRecDepth 1000000 in
theorem j22:(fun (P:Program) (f:FuncId) (fn:Func) (s:ChangeSpec) (c:OpenClaim)=>(((c.plainKeys==P.plainKeys)):Bool)) Tryz.prog 8 Tryz.f8 (Rows.OpenSpec.upto Rows.scriptBackSpec).bare Rows.scriptBackUptoRow=true:=by kernel_rfl
set_option maxRecDepth 1000000 in
theorem j26:(fun (P:Program) (f:FuncId) (fn:Func) (s:ChangeSpec) (c:OpenClaim)=>(((c.lifted==P.liftsFinal)):Bool)) Tryz.prog 8 Tryz.f8 (Rows.OpenSpec.upto Rows.scriptBackSpec).bare Rows.scriptBackUptoRow=true:=by kernel_rfl
set_option maxRecDepth 1000000 in
theorem j27:(fun (P:Program) (f:FuncId) (fn:Func) (s:ChangeSpec) (c:OpenClaim)=>(((P.make==some c.make)):Bool)) Tryz.prog 8 Tryz.f8 (Rows.OpenSpec.upto Rows.scriptBackSpec).bare Rows.scriptBackUptoRow=true:=by kernel_rfl
end Go.Proofs.YtihlneenajlhoaaGreatDoor
