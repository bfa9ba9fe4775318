/-
 A call of the run as it stands in its store, number 11.
-/
import Derived.Test.YtihlneenajlhoaaGreatDoorAw3
set_option linter.unusedVariables false
namespace Go.Proofs.YtihlneenajlhoaaGreatDoor
open Go Go.Proofs.YtihlneenajlhoaaGreatDoor.ae
noncomputable def Td:D8:=⟨334,[(qo 4950),z5y,qn],6722,z17,(.tuple #[]),7058,[z1k,ze,z18,zv,z1n,zq,zl,z1a,zh,z1b,zi,z1m,zn,z1r,zw,z1c,z1x,zj,z1u,Ea,z1z,z1d,z2b,z1h,z29,z1l,z1i,z22,z2c,z1e,z19,z2a,z2k,(4950,.cells [(qs 7054 0 1 big),qq,qn] 323 false false),z3l,TR,z3m,z3z,z2s,z2g,z2h,z1p,z1v]⟩
theorem jP:EY Tryz.prog 7 rg (DI (EI []) EQ) (sp hints) noD 1000 60 Td=true:=by kernel_rfl
end Go.Proofs.YtihlneenajlhoaaGreatDoor
