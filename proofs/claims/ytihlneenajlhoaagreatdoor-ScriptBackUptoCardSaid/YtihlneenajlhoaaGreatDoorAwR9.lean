/-
 A call of the run as it stands in its store, number 9.
-/
import Derived.Test.YtihlneenajlhoaaGreatDoorAw3
set_option linter.unusedVariables false
namespace Go.Proofs.YtihlneenajlhoaaGreatDoor
open Go Go.Proofs.YtihlneenajlhoaaGreatDoor.ae
noncomputable def TZ:D8:=⟨488,[(qo 6475),(qo 6577),qc],6587,[z1k,ze,z18,zv,z1n,zq,zl,z1a,zh,z1b,zi,z1m,zn,z1r,zw,z1c,z1x,zj,z1u,Ea,z1z,z1d,z2b,z1h,z29,z1l,z1i,z22,z2c,z1e,z19,z2a,z2k,z2l,z2i,z5e,XD,z47,(6577,.cells [qa,(qi 6),qn,qa,qe,qn,qn,qn] 664 false false)],(.tuple #[]),6713,[z1k,ze,z18,zv,z1n,zq,zl,z1a,zh,z1b,zi,z1m,zn,z1r,zw,z1c,z1x,zj,z1u,Ea,z1z,z1d,z2b,z1h,z29,z1l,z1i,z22,z2c,z1e,z19,z2a,z2k,z2l,z2i,z5e,XD,z47,(6577,.cells [(qi 6),(qi 6),z5y,qa,qe,qn,qn,qn] 664 false false),z3l,TR,z3m,z3z]⟩
theorem jK:EY Tryz.prog 7 rg (DI (EI []) EQ) (sp hints) noD 1000 60 TZ=true:=by kernel_rfl
end Go.Proofs.YtihlneenajlhoaaGreatDoor
