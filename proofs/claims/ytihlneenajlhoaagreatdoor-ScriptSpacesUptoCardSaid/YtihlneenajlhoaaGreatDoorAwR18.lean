/-
 A call of the run as it stands in its store, number 18.
-/
import Derived.Test.YtihlneenajlhoaaGreatDoorAw3
import Derived.Test.YtihlneenajlhoaaGreatDoorAwR2
import Derived.Test.YtihlneenajlhoaaGreatDoorAwR4
import Derived.Test.YtihlneenajlhoaaGreatDoorAwR5
import Derived.Test.YtihlneenajlhoaaGreatDoorAwR17
set_option linter.unusedVariables false
namespace Go.Proofs.YtihlneenajlhoaaGreatDoor
open Go Go.Proofs.YtihlneenajlhoaaGreatDoor.ae
noncomputable def row18:HRow:=⟨31,[(qb [112]),(qs 7 0 32 32)],8,[(6,.cells ascii 314 true false),(7,.cells (qv [115,104,101,101,116,32,50,32,34,112,123,103,97,112,58,53,48,118,119,125,34,10,97,115,107,32,48,32,103,97,112,10]) 5 false false)],(.tuple #[(qb [111,107,10,52,48,48,112,120,10]),q0]),12692,[(6,.cells ascii 314 true false),(7,.cells (qv [115,104,101,101,116,32,50,32,34,112,123,103,97,112,58,53,48,118,119,125,34,10,97,115,107,32,48,32,103,97,112,10]) 5 false false)]⟩
theorem rowOk18:chkRow Tryz.prog 7 rg (orF (rowF [row2,row4,row5,row17]) ext4) (sp hints) noD 1000 60 row18=true:=by kernel_rfl
end Go.Proofs.YtihlneenajlhoaaGreatDoor
