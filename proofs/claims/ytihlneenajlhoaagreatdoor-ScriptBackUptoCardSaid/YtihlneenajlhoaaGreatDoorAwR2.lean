/-
 A call of the run as it stands in its store, number 2.
-/
import Derived.Test.YtihlneenajlhoaaGreatDoorAw3
import Derived.Test.YtihlneenajlhoaaGreatDoorAwR1
set_option linter.unusedVariables false
namespace Go.Proofs.YtihlneenajlhoaaGreatDoor
open Go Go.Proofs.YtihlneenajlhoaaGreatDoor.ae
noncomputable def TT:D8:=⟨133,[(qo 130),z3a,z3a,qt],173,[z1k,ze,OD,OE,z35,z3w,z18,zv,z1n,z5t,z1s,z1a,zh,z1b,zi,z1m,zn],(qs 3556 0 1 big),3584,[z1k,ze,OD,OE,z35,z3w,z18,zv,z1n,zq,(130,.cells [qf,z3r,qc,z3s,qc,z3h,qc,z5m,qc,z2n,z2o,z2r,zu,z6c,qq,qq,qq,z43,(qo 3583),z5q,z5r,z6o,qn,qa,qa] 184 false false),z1a,zh,z1b,zi,z1m,zn,z1r,(3556,.cells [qa] 3 false true),zw,z1c]⟩
theorem rowOk2:EY Tryz.prog 7 rg (DI (EI [TS]) EQ) (sp hints) noD 1000 60 TT=true:=by kernel_rfl
end Go.Proofs.YtihlneenajlhoaaGreatDoor
