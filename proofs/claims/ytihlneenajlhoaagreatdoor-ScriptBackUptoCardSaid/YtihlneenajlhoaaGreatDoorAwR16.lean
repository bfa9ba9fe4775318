/-
 A call of the run as it stands in its store, number 16.
-/
import Derived.Test.YtihlneenajlhoaaGreatDoorAw3
import Derived.Test.YtihlneenajlhoaaGreatDoorAwR12
import Derived.Test.YtihlneenajlhoaaGreatDoorAwR15
set_option linter.unusedVariables false
namespace Go.Proofs.YtihlneenajlhoaaGreatDoor
open Go Go.Proofs.YtihlneenajlhoaaGreatDoor.ae
noncomputable def Tn:D8:=⟨133,[(qo 130),z3a,(.agg #[qf,z3r,qc,z3s,qc,z3h,qc,z5m,qc,z2n,z2o,z2r,zu,z5p,qq,qq,z5a]),qt],7288,[z1k,ze,z18,zv,z1n,zq,zx,z1a,zh,z1b,zi,z1r,zw,z1c,z1x,zj,z1u,Ea,z1z,z1d,z2b,z1h,z29,z1l,z1i,z22,z2c,z1e,z1f,z2a,z2e,z2s,z2g,z2h,z1p,z1v,z1w,XA,Ir,z2x,z2j,z2m,z1g],(qs 12529 0 1 big),12596,[z1k,ze,z18,zv,z1n,z41,(130,.cells [qf,z3r,qc,z3s,qc,z3h,qc,z5m,qc,z2n,z2o,z2r,zu,z5p,qq,qq,z5a,z43,(qo 12595),z5q,z5r,(qo 7192),qn,qc,qa] 184 false false),z1a,zh,z1b,zi,z1x,zj,z1u,Ea,z1z,z1d,z2b,z1h,z29,z1l,z1i,z22,z2c,z1e,z1f,z2a,z2e,z2s,z2g,z2h,z1p,z1v,z1w,KC,Ir,z2x,z2j,z2m,z1g,z2v,z1o,z63,z4s,z5d]⟩
theorem jZ:EY Tryz.prog 7 rg (DI (EI [Tf,Tm]) EQ) (sp hints) noD 1000 60 Tn=true:=by kernel_rfl
end Go.Proofs.YtihlneenajlhoaaGreatDoor
