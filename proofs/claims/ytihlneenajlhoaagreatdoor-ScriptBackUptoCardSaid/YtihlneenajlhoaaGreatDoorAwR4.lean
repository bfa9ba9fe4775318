/-
 A call of the run as it stands in its store, number 4.
-/
import Derived.Test.YtihlneenajlhoaaGreatDoorAw3
import Derived.Test.YtihlneenajlhoaaGreatDoorAwR3
set_option linter.unusedVariables false
namespace Go.Proofs.YtihlneenajlhoaaGreatDoor
open Go Go.Proofs.YtihlneenajlhoaaGreatDoor.ae
noncomputable def row4:D8:=⟨9,[QC],3585,[z1k,ze,z18,zv,z1n,zq,zz,z1a,zh,z1b,zi,z1m,zn,z1r,zw,z1c,z1q],(.tuple #[z45,qt,qa]),4351,[z1k,ze,z18,zv,z1n,zq,zz,z1a,zh,z1b,zi,z1m,zn,z1r,zw,z1c,z1q,z1x]⟩
theorem jA:EY Tryz.prog 7 rg (DI (EI [row3]) EQ) (sp hints) noD 1000 60 row4=true:=by kernel_rfl
end Go.Proofs.YtihlneenajlhoaaGreatDoor
