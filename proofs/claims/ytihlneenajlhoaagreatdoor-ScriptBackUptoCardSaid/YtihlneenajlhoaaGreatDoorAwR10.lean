/-
 A call of the run as it stands in its store, number 10.
-/
import Derived.Test.YtihlneenajlhoaaGreatDoorAw3
import Derived.Test.YtihlneenajlhoaaGreatDoorAwR8
import Derived.Test.YtihlneenajlhoaaGreatDoorAwR9
set_option linter.unusedVariables false
namespace Go.Proofs.YtihlneenajlhoaaGreatDoor
open Go Go.Proofs.YtihlneenajlhoaaGreatDoor.ae
noncomputable def Tc:D8:=⟨333,[(qs 4923 0 11 big)],4951,[z1k,ze,z18,zv,z1n,zq,zl,z1a,zh,z1b,zi,z1m,zn,z1r,zw,z1c,z1x,zj,z1u,Ea,z1z,z1d,z2b,z1h,z29,z1l,z1i,z22,z2c,z1e,z19,z2a,z2k,z2l],(.tuple #[z5y,qa]),6722,z17⟩
theorem jM:EY Tryz.prog 7 rg (DI (EI [TY,TZ]) EQ) (sp hints) noD 1000 60 Tc=true:=by kernel_rfl
end Go.Proofs.YtihlneenajlhoaaGreatDoor
