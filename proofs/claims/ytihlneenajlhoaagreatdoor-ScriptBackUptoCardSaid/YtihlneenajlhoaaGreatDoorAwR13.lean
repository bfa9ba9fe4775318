/-
 A call of the run as it stands in its store, number 13.
-/
import Derived.Test.YtihlneenajlhoaaGreatDoorAw3
set_option linter.unusedVariables false
namespace Go.Proofs.YtihlneenajlhoaaGreatDoor
open Go Go.Proofs.YtihlneenajlhoaaGreatDoor.ae
noncomputable def Ti:D8:=⟨225,[(.agg #[z3y,qn])],9506,zg,qt,10509,zg⟩
theorem jT:EY Tryz.prog 7 rg (DI (EI []) EQ) (sp hints) noD 1000 60 Ti=true:=by kernel_rfl
end Go.Proofs.YtihlneenajlhoaaGreatDoor
