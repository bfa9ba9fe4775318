/-
 A call of the run as it stands in its store, number 12.
-/
import Derived.Test.YtihlneenajlhoaaGreatDoorAw3
set_option linter.unusedVariables false
namespace Go.Proofs.YtihlneenajlhoaaGreatDoor
open Go Go.Proofs.YtihlneenajlhoaaGreatDoor.ae
noncomputable def Tf:D8:=⟨225,[(.agg #[Lj,qn])],7458,zm,qt,8461,zm⟩
theorem jR:EY Tryz.prog 7 rg (DI (EI []) EQ) (sp hints) noD 1000 60 Tf=true:=by kernel_rfl
end Go.Proofs.YtihlneenajlhoaaGreatDoor
