/-
 A call of the run as it stands in its store, number 15.
-/
import Derived.Test.YtihlneenajlhoaaGreatDoorAw3
import Derived.Test.YtihlneenajlhoaaGreatDoorAwR13
import Derived.Test.YtihlneenajlhoaaGreatDoorAwR14
set_option linter.unusedVariables false
namespace Go.Proofs.YtihlneenajlhoaaGreatDoor
open Go Go.Proofs.YtihlneenajlhoaaGreatDoor.ae
noncomputable def Tm:D8:=⟨232,[(.agg #[z3y,qn]),qt,z5c,(qs 9501 0 1 big)],9503,[z1k,ze,z18,zv,z1n,zq,zx,z1a,zh,z1b,zi,z1r,zw,z1c,z1x,zj,z1u,Ea,z1z,z1d,z2b,z1h,z29,z1l,z1i,z22,z2c,z1e,z1f,z2a,z2e,z2s,z2g,z2h,z1p,z1v,z1w,KC,Ir,z2x,z2j,z2m,z1g,z3i,z3j,z4j,zy,z36,Lm,z38,z4l,z3e,z4m,z4n,z3k,z39,z3u,z32,OA,z3o,OB,OC,z30,z3d,z2v,z3x,z34,z3n,z2p],(.tuple #[(.agg #[z48,qn]),z3h,qa]),12520,[z1k,ze,z18,zv,z1n,zq,zx,z1a,zh,z1b,zi,z1r,zw,z1c,z1x,zj,z1u,Ea,z1z,z1d,z2b,z1h,z29,z1l,z1i,z22,z2c,z1e,z1f,z2a,z2e,z2s,z2g,z2h,z1p,z1v,z1w,KC,Ir,z2x,z2j,z2m,z1g,z3i,z3j,z4j,zy,z36,Lm,z38,z4l,z3e,z4m,z4n,z3k,z39,z3u,z32,OA,z3o,OB,OC,z30,z3d,z2v,z3x,z34,z3n,z2p,z1o]⟩
theorem jX:EY Tryz.prog 7 rg (DI (EI [Ti,Tj]) EQ) (sp hints) noD 1000 60 Tm=true:=by kernel_rfl
end Go.Proofs.YtihlneenajlhoaaGreatDoor
