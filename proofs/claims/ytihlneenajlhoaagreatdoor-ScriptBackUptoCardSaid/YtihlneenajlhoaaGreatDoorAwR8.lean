/-
 A call of the run as it stands in its store, number 8.
-/
import Derived.Test.YtihlneenajlhoaaGreatDoorAw3
import Derived.Test.YtihlneenajlhoaaGreatDoorAwR6
import Derived.Test.YtihlneenajlhoaaGreatDoorAwR7
set_option linter.unusedVariables false
namespace Go.Proofs.YtihlneenajlhoaaGreatDoor
open Go Go.Proofs.YtihlneenajlhoaaGreatDoor.ae
noncomputable def TY:D8:=⟨489,[z4p],4995,[z1k,ze,z18,zv,z1n,zq,zl,z1a,zh,z1b,zi,z1m,zn,z1r,zw,z1c,z1x,zj,z1u,Ea,z1z,z1d,z2b,z1h,z29,z1l,z1i,z22,z2c,z1e,z19,z2a,z2k,z2l,Lp],(qs 6441 0 6 big),6467,[z1k,ze,z18,zv,z1n,zq,zl,z1a,zh,z1b,zi,z1m,zn,z1r,zw,z1c,z1x,zj,z1u,Ea,z1z,z1d,z2b,z1h,z29,z1l,z1i,z22,z2c,z1e,z19,z2a,z2k,z2l,Lp,z2i]⟩
theorem jI:EY Tryz.prog 7 rg (DI (EI [TV,TW]) EQ) (sp hints) noD 1000 60 TY=true:=by kernel_rfl
end Go.Proofs.YtihlneenajlhoaaGreatDoor
