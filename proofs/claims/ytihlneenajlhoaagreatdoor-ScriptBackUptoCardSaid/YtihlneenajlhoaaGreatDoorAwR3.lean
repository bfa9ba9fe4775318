/-
 A call of the run as it stands in its store, number 3.
-/
import Derived.Test.YtihlneenajlhoaaGreatDoorAw3
set_option linter.unusedVariables false
namespace Go.Proofs.YtihlneenajlhoaaGreatDoor
open Go Go.Proofs.YtihlneenajlhoaaGreatDoor.ae
noncomputable def row3:D8:=⟨47,[(qo 3588)],3993,[z1k,ze,z18,zv,z1n,zq,zz,z1a,zh,z1b,zi,z1m,zn,z1r,zw,z1c,z1q,z64,z65,z60,(3588,.cells [QC,z5m] 61 false false),XE,z4g],(qb z5s),4280,[z1k,ze,z18,zv,z1n,zq,zz,z1a,zh,z1b,zi,z1m,zn,z1r,zw,z1c,z1q,z64,z65,z60,(3588,.cells [QC,(qi 21)] 61 false false),XE,z4g]⟩
theorem iY:EY Tryz.prog 7 rg (DI (EI []) EQ) (sp hints) noD 1000 60 row3=true:=by kernel_rfl
end Go.Proofs.YtihlneenajlhoaaGreatDoor
