/-
 A call of the run as it stands in its store, number 18.
-/
import Derived.Test.YtihlneenajlhoaaGreatDoorAw3
import Derived.Test.YtihlneenajlhoaaGreatDoorAwR2
import Derived.Test.YtihlneenajlhoaaGreatDoorAwR4
import Derived.Test.YtihlneenajlhoaaGreatDoorAwR5
import Derived.Test.YtihlneenajlhoaaGreatDoorAwR17
set_option linter.unusedVariables false
namespace Go.Proofs.YtihlneenajlhoaaGreatDoor
open Go Go.Proofs.YtihlneenajlhoaaGreatDoor.ae
noncomputable def QD:D8:=⟨31,[z58,(qs 7 0 32 32)],8,[z1k,ze],(.tuple #[(qb [111,107,10,52,48,48,112,120,10]),qa]),12692,[z1k,ze]⟩
theorem kF:EY Tryz.prog 7 rg (DI (EI [TT,row4,TU,Tq]) EQ) (sp hints) noD 1000 60 QD=true:=by kernel_rfl
end Go.Proofs.YtihlneenajlhoaaGreatDoor
