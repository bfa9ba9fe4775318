/-
 A call of the run as it stands in its store, number 5.
-/
import Derived.Test.YtihlneenajlhoaaGreatDoorAw3
set_option linter.unusedVariables false
namespace Go.Proofs.YtihlneenajlhoaaGreatDoor
open Go Go.Proofs.YtihlneenajlhoaaGreatDoor.ae
noncomputable def TU:D8:=⟨26,[(qo 4357)],4358,[z1k,ze,z18,zv,z1n,zq,zz,z1a,zh,z1b,zi,z1m,zn,z1r,zw,z1c,z1q,z1x,z6a,XG,z6d,z66,z67,z61,(4357,.cells [z4f,qa] 61 false false)],(qs 4805 0 3 big),4836,[z1k,ze,z18,zv,z1n,zq,zz,z1a,zh,z1b,zi,z1m,zn,z1r,zw,z1c,z1q,z1x,z6a,XG,z6d,z66,z67,z61,(4357,.cells [z4f,(qi 9)] 61 false false),(4805,.cells [(qb [97,115,107]),qf,(qb [48]),qf,z2u,qf] 71 false true)]⟩
theorem jC:EY Tryz.prog 7 rg (DI (EI []) EQ) (sp hints) noD 1000 60 TU=true:=by kernel_rfl
end Go.Proofs.YtihlneenajlhoaaGreatDoor
