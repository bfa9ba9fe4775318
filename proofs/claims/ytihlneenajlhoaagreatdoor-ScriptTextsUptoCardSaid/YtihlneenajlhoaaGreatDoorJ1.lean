/-
  Closed facts of the row of jalousielaw27.ScriptTexts over the program, part 1.
-/
import Derived.Test.YtihlneenajlhoaaGreatDoorRows
import Derived.JoinedOf
import Derived.KernelRfl
set_option linter.unusedVariables false
namespace Go.Proofs.YtihlneenajlhoaaGreatDoor
open Go
set_option maxRecDepth 1000000 in
theorem j2 : (fun (P : Program) (f : FuncId) (fn : Func) (s : ChangeSpec) (c : OpenClaim) => ((mapsRowed P) : Bool)) Tryz.prog 7 Tryz.f7 (Rows.OpenSpec.upto Rows.scriptTextsSpec).bare Rows.scriptTextsUptoRow = true := by kernel_rfl
end Go.Proofs.YtihlneenajlhoaaGreatDoor
