/-
 A call of the run as it stands in its store, number 6.
-/
import Derived.Test.YtihlneenajlhoaaGreatDoorAw3
set_option linter.unusedVariables false
namespace Go.Proofs.YtihlneenajlhoaaGreatDoor
open Go Go.Proofs.YtihlneenajlhoaaGreatDoor.ae
noncomputable def TV:D8:=⟨562,[(qo 4995)],5413,[z1k,ze,z18,zv,z1n,zq,zl,z1a,zh,z1b,zi,z1m,zn,z1r,zw,z1c,z1x,zj,z1u,Ea,z1z,z1d,z2b,z1h,z29,z1l,z1i,z22,z2c,z1e,z19,z2a,z2k,z2l,Lp,(4995,.cells [z4p,qd] 734 false false),z59,z4a],(.agg #[qc,z2u,qa,qa,qf,qf]),5755,[z1k,ze,z18,zv,z1n,zq,zl,z1a,zh,z1b,zi,z1m,zn,z1r,zw,z1c,z1x,zj,z1u,Ea,z1z,z1d,z2b,z1h,z29,z1l,z1i,z22,z2c,z1e,z19,z2a,z2k,z2l,Lp,(4995,.cells [z4p,(qi 5)] 734 false false),z59,z4a]⟩
theorem jE:EY Tryz.prog 7 rg (DI (EI []) EQ) (sp hints) noD 1000 60 TV=true:=by kernel_rfl
end Go.Proofs.YtihlneenajlhoaaGreatDoor
