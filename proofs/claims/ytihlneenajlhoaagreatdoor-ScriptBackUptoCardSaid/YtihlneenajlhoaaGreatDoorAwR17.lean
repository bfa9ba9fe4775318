/-
 A call of the run as it stands in its store, number 17.
-/
import Derived.Test.YtihlneenajlhoaaGreatDoorAw3
import Derived.Test.YtihlneenajlhoaaGreatDoorAwR10
import Derived.Test.YtihlneenajlhoaaGreatDoorAwR11
import Derived.Test.YtihlneenajlhoaaGreatDoorAwR16
set_option linter.unusedVariables false
namespace Go.Proofs.YtihlneenajlhoaaGreatDoor
open Go Go.Proofs.YtihlneenajlhoaaGreatDoor.ae
noncomputable def Tq:D8:=⟨103,[(qo 130),z45,qq],4887,[z1k,ze,z18,zv,z1n,zq,zz,z1a,zh,z1b,zi,z1m,zn,z1r,zw,z1c,z1x,zj,z1u,Ea,z1z,z1d],(.agg #[qa,qa,qa,qa,qa,qe,qe,qf,qn,qa]),12605,[z1k,ze,z41,(130,.cells [qf,z3r,qc,z3s,qc,z3h,qc,z5m,qc,z2n,z2o,z2r,zu,z5p,qq,qq,z5a,z43,(qo 12595),z5q,z5r,(qo 7192),(qs 12529 0 1 big),qd,qa] 184 false false),z1a,zh,z1b,zi,z1x,zj,z1u,Ea,z1z,z1d,z1l,z1i,z22,z2c,z1e,z1f,z2e,z2s,z2g,z2h,z1p,z1v,z1w,KC,Ir,z2x,z2j,z2m,z1g,z2v,z1o,z63,z4s,z5d]⟩
theorem kD:EY Tryz.prog 7 rg (DI (EI [Tc,Td,Tn]) EQ) (sp hints) noD 1000 60 Tq=true:=by kernel_rfl
end Go.Proofs.YtihlneenajlhoaaGreatDoor
