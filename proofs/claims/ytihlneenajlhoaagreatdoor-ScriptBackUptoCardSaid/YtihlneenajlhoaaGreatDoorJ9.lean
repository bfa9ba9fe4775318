/-
 Closed facts of the row of jalousielaw27.ScriptBack over the program, part 9.
-/
import Derived.Test.YtihlneenajlhoaaGreatDoorRows
import Derived.JoinedOf
import Derived.KernelRfl
set_option linter.unusedVariables false
namespace Go.Proofs.YtihlneenajlhoaaGreatDoor
open Go
set_option maxRecDepth 1000000 in
theorem j3:(fun (P:Program) (f:FuncId) (fn:Func) (s:ChangeSpec) (c:OpenClaim)=>((fn.params.all (P.readableRec ·)):Bool)) Tryz.prog 8 Tryz.f8 (Rows.OpenSpec.upto Rows.scriptBackSpec).bare Rows.scriptBackUptoRow=true:=by kernel_rfl
set_option maxRecDepth 1000000 in
theorem j4:(fun (P:Program) (f:FuncId) (fn:Func) (s:ChangeSpec) (c:OpenClaim)=>((namedTie P c.named s.vars):Bool)) Tryz.prog 8 Tryz.f8 (Rows.OpenSpec.upto Rows.scriptBackSpec).bare Rows.scriptBackUptoRow=true:=by kernel_rfl
set_option maxRecDepth 1000000 in
theorem j5:(fun (P:Program) (f:FuncId) (fn:Func) (s:ChangeSpec) (c:OpenClaim)=>(((c.stops==[])):Bool)) Tryz.prog 8 Tryz.f8 (Rows.OpenSpec.upto Rows.scriptBackSpec).bare Rows.scriptBackUptoRow=true:=by kernel_rfl
set_option maxRecDepth 1000000 in
theorem j7:(fun (P:Program) (f:FuncId) (fn:Func) (s:ChangeSpec) (c:OpenClaim)=>(((c.knobs==[])):Bool)) Tryz.prog 8 Tryz.f8 (Rows.OpenSpec.upto Rows.scriptBackSpec).bare Rows.scriptBackUptoRow=true:=by kernel_rfl
set_option maxRecDepth 1000000 in
theorem j13:(fun (P:Program) (f:FuncId) (fn:Func) (s:ChangeSpec) (c:OpenClaim)=>(((c.maps==(fn.params.toList++s.plain.varTypes P).any (P.mapsRec ·))):Bool)) Tryz.prog 8 Tryz.f8 (Rows.OpenSpec.upto Rows.scriptBackSpec).bare Rows.scriptBackUptoRow=true:=by kernel_rfl
set_option maxRecDepth 1000000 in
theorem j14:(fun (P:Program) (f:FuncId) (fn:Func) (s:ChangeSpec) (c:OpenClaim)=>(((c.ifaces==(fn.params.toList++s.plain.varTypes P).any (P.ifacesRec ·))):Bool)) Tryz.prog 8 Tryz.f8 (Rows.OpenSpec.upto Rows.scriptBackSpec).bare Rows.scriptBackUptoRow=true:=by kernel_rfl
set_option maxRecDepth 1000000 in
theorem j15:(fun (P:Program) (f:FuncId) (fn:Func) (s:ChangeSpec) (c:OpenClaim)=>(((c.mapsOut==P.mapsAmong fn.resultTypes.toList)):Bool)) Tryz.prog 8 Tryz.f8 (Rows.OpenSpec.upto Rows.scriptBackSpec).bare Rows.scriptBackUptoRow=true:=by kernel_rfl
set_option maxRecDepth 1000000 in
theorem j16:(fun (P:Program) (f:FuncId) (fn:Func) (s:ChangeSpec) (c:OpenClaim)=>(((c.loops==(fn.params.toList++s.plain.varTypes P).any (P.loopsFrom ·))):Bool)) Tryz.prog 8 Tryz.f8 (Rows.OpenSpec.upto Rows.scriptBackSpec).bare Rows.scriptBackUptoRow=true:=by kernel_rfl
set_option maxRecDepth 1000000 in
theorem j17:(fun (P:Program) (f:FuncId) (fn:Func) (s:ChangeSpec) (c:OpenClaim)=>(((c.wideKeys==(fn.params.toList++s.plain.varTypes P++fn.resultTypes.toList).any (P.wideKeysFrom ·))):Bool)) Tryz.prog 8 Tryz.f8 (Rows.OpenSpec.upto Rows.scriptBackSpec).bare Rows.scriptBackUptoRow=true:=by kernel_rfl
set_option maxRecDepth 1000000 in
theorem j18:(fun (P:Program) (f:FuncId) (fn:Func) (s:ChangeSpec) (c:OpenClaim)=>((s.vars.all (P.varReadable ·)):Bool)) Tryz.prog 8 Tryz.f8 (Rows.OpenSpec.upto Rows.scriptBackSpec).bare Rows.scriptBackUptoRow=true:=by kernel_rfl
set_option maxRecDepth 1000000 in
theorem j19:(fun (P:Program) (f:FuncId) (fn:Func) (s:ChangeSpec) (c:OpenClaim)=>((fn.resultTypes.all (fun t=>P.readableRec t&&decide (t<P.types.size))):Bool)) Tryz.prog 8 Tryz.f8 (Rows.OpenSpec.upto Rows.scriptBackSpec).bare Rows.scriptBackUptoRow=true:=by kernel_rfl
set_option maxRecDepth 1000000 in
theorem j20:(fun (P:Program) (f:FuncId) (fn:Func) (s:ChangeSpec) (c:OpenClaim)=>(((c.ifacesOut==fn.resultTypes.toList.any (P.ifacesRec ·))):Bool)) Tryz.prog 8 Tryz.f8 (Rows.OpenSpec.upto Rows.scriptBackSpec).bare Rows.scriptBackUptoRow=true:=by kernel_rfl
set_option maxRecDepth 1000000 in
theorem j21:(fun (P:Program) (f:FuncId) (fn:Func) (s:ChangeSpec) (c:OpenClaim)=>(((c.loopsOut==fn.resultTypes.toList.any (P.loopsFrom ·))):Bool)) Tryz.prog 8 Tryz.f8 (Rows.OpenSpec.upto Rows.scriptBackSpec).bare Rows.scriptBackUptoRow=true:=by kernel_rfl
set_option maxRecDepth 1000000 in
theorem j23:(fun (P:Program) (f:FuncId) (fn:Func) (s:ChangeSpec) (c:OpenClaim)=>((c.shortTexts.isNone):Bool)) Tryz.prog 8 Tryz.f8 (Rows.OpenSpec.upto Rows.scriptBackSpec).bare Rows.scriptBackUptoRow=true:=by kernel_rfl
set_option maxRecDepth 1000000 in
theorem j28:(fun (P:Program) (f:FuncId) (fn:Func) (s:ChangeSpec) (c:OpenClaim)=>(((c.kinds==(if c.domain.isEmpty then [] else fn.params.toList.map fun t=>match P.underlying t with | some (.int k)=>some k | _=>none))):Bool)) Tryz.prog 8 Tryz.f8 (Rows.OpenSpec.upto Rows.scriptBackSpec).bare Rows.scriptBackUptoRow=true:=by kernel_rfl
set_option maxRecDepth 1000000 in
theorem j29:(fun (P:Program) (f:FuncId) (fn:Func) (s:ChangeSpec) (c:OpenClaim)=>(((c.pinned==c.pinnedBy)):Bool)) Tryz.prog 8 Tryz.f8 (Rows.OpenSpec.upto Rows.scriptBackSpec).bare Rows.scriptBackUptoRow=true:=by kernel_rfl
set_option maxRecDepth 1000000 in
theorem j30:(fun (P:Program) (f:FuncId) (fn:Func) (s:ChangeSpec) (c:OpenClaim)=>(((c.veiled==(fn.params.toList++s.plain.varTypes P++fn.resultTypes.toList).any (P.veiledRec ·))):Bool)) Tryz.prog 8 Tryz.f8 (Rows.OpenSpec.upto Rows.scriptBackSpec).bare Rows.scriptBackUptoRow=true:=by kernel_rfl
set_option maxRecDepth 1000000 in
theorem j31:(fun (P:Program) (f:FuncId) (fn:Func) (s:ChangeSpec) (c:OpenClaim)=>((c.veiledFits P fn.params.toList (fn.params.toList++s.plain.varTypes P++fn.resultTypes.toList)):Bool)) Tryz.prog 8 Tryz.f8 (Rows.OpenSpec.upto Rows.scriptBackSpec).bare Rows.scriptBackUptoRow=true:=by kernel_rfl
end Go.Proofs.YtihlneenajlhoaaGreatDoor
