/-
 A call of the run as it stands in its store, number 14.
-/
import Derived.Test.YtihlneenajlhoaaGreatDoorAw3
set_option linter.unusedVariables false
namespace Go.Proofs.YtihlneenajlhoaaGreatDoor
open Go Go.Proofs.YtihlneenajlhoaaGreatDoor.ae
noncomputable def Tj:D8:=⟨383,[(qo 10532),(.agg #[z2u,qc,qf,qf,(qs 10957 0 0 0),qc,qa,qc,qe]),(.agg #[qc,z5z,qc,(qi 4),qn])],10963,[z1k,ze,z18,zv,z1n,zq,zx,z1a,zh,z1b,zi,z1r,zw,z1c,z1x,zj,z1u,Ea,z1z,z1d,z2b,z1h,z29,z1l,z1i,z22,z2c,z1e,z1f,z2a,z2e,z2s,z2g,z2h,z1p,z1v,z1w,KC,Ir,z2x,z2j,z2m,z1g,z3i,z3j,z4j,zy,z36,Lm,z38,z4l,z3e,z4m,z4n,z3k,z39,z3u,z32,OA,z3o,OB,OC,z30,z3d,z2v,z3x,z34,z3n,z2p,TM,z4r,z4h,z44,(10532,.cells [z3y,qn,z3h,qc,z3h,qc,z3r,qc,z3s,qc,z3r,qc,z3s,qc,z3h,qc,(.map (some 10531)),qn,qa] 478 false false),z5x,XF,z2t,z2d,z5n,z69,z4d,z4o],(.tuple #[(.agg #[qc,(qi 400),qc,qe]),qt]),11694,[z1k,ze,z18,zv,z1n,zq,zx,z1a,zh,z1b,zi,z1r,zw,z1c,z1x,zj,z1u,Ea,z1z,z1d,z2b,z1h,z29,z1l,z1i,z22,z2c,z1e,z1f,z2a,z2e,z2s,z2g,z2h,z1p,z1v,z1w,KC,Ir,z2x,z2j,z2m,z1g,z3i,z3j,z4j,zy,z36,Lm,z38,z4l,z3e,z4m,z4n,z3k,z39,z3u,z32,OA,z3o,OB,OC,z30,z3d,z2v,z3x,z34,z3n,z2p,TM,z4r,z4h,z44,(10532,.cells [z3y,qn,z3h,qc,z3h,qc,z3r,qc,z3s,qc,z3r,qc,z3s,qc,z3h,qc,(.map (some 10531)),qn,z3h] 478 false false),z5x,XF,z2t,z2d,z5n,z69,z4d,z4o]⟩
theorem jV:EY Tryz.prog 7 rg (DI (EI []) EQ) (sp hints) noD 1000 60 Tj=true:=by kernel_rfl
end Go.Proofs.YtihlneenajlhoaaGreatDoor
