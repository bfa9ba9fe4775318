/-
 A call of the run as it stands in its store, number 7.
-/
import Derived.Test.YtihlneenajlhoaaGreatDoorAw3
set_option linter.unusedVariables false
namespace Go.Proofs.YtihlneenajlhoaaGreatDoor
open Go Go.Proofs.YtihlneenajlhoaaGreatDoor.ae
noncomputable def TW:D8:=⟨620,[(qo 4995)],5963,[z1k,ze,z18,zv,z1n,zq,zl,z1a,zh,z1b,zi,z1m,zn,z1r,zw,z1c,z1x,zj,z1u,Ea,z1z,z1d,z2b,z1h,z29,z1l,z1i,z22,z2c,z1e,z19,z2a,z2k,z2l,Lp,(4995,.cells [z4p,(qi 6)] 734 false false),z5g,XC,z5i],(.agg #[(qi 12),z6m,z5z,qc,qt,qf]),6361,[z1k,ze,z18,zv,z1n,zq,zl,z1a,zh,z1b,zi,z1m,zn,z1r,zw,z1c,z1x,zj,z1u,Ea,z1z,z1d,z2b,z1h,z29,z1l,z1i,z22,z2c,z1e,z19,z2a,z2k,z2l,Lp,(4995,.cells [z4p,(qi 10)] 734 false false),z5g,XC,z5i]⟩
theorem jG:EY Tryz.prog 7 rg (DI (EI []) EQ) (sp hints) noD 1000 60 TW=true:=by kernel_rfl
end Go.Proofs.YtihlneenajlhoaaGreatDoor
