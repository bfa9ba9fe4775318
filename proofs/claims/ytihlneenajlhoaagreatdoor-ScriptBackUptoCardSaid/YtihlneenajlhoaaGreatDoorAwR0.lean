/-
 A call of the run as it stands in its store, number 0.
-/
import Derived.Test.YtihlneenajlhoaaGreatDoorAw3
set_option linter.unusedVariables false
namespace Go.Proofs.YtihlneenajlhoaaGreatDoor
open Go Go.Proofs.YtihlneenajlhoaaGreatDoor.ae
noncomputable def row0:D8:=⟨225,[(.agg #[z5f,qn])],1301,zo,qt,2304,zo⟩
theorem iR:EY Tryz.prog 7 rg (DI (EI []) EQ) (sp hints) noD 1000 60 row0=true:=by kernel_rfl
end Go.Proofs.YtihlneenajlhoaaGreatDoor
