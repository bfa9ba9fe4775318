/-
  The closed facts of the row of jalousielaw27.ScriptTells, together.
-/
import Derived.Test.YtihlneenajlhoaaGreatDoorJ0
import Derived.Test.YtihlneenajlhoaaGreatDoorJ1
import Derived.Test.YtihlneenajlhoaaGreatDoorJ2
import Derived.Test.YtihlneenajlhoaaGreatDoorJ3
import Derived.Test.YtihlneenajlhoaaGreatDoorJ4
import Derived.Test.YtihlneenajlhoaaGreatDoorJ5
import Derived.Test.YtihlneenajlhoaaGreatDoorJ6
import Derived.Test.YtihlneenajlhoaaGreatDoorJ7
import Derived.Test.YtihlneenajlhoaaGreatDoorJ8
import Derived.Test.YtihlneenajlhoaaGreatDoorJ9
import Derived.Test.YtihlneenajlhoaaGreatDoorBj
set_option linter.unusedVariables false
namespace Go.Proofs.YtihlneenajlhoaaGreatDoor
open Go
set_option maxRecDepth 100000 in
theorem closed : joinedFacts Tryz.prog 5 Tryz.f5 (Rows.OpenSpec.upto Rows.scriptTellsSpec).bare Rows.scriptTellsUptoRow = true := by
  unfold joinedFacts
  simp only [Bool.and_eq_true]
  exact ⟨⟨⟨⟨⟨⟨⟨⟨⟨⟨⟨⟨⟨⟨⟨⟨⟨⟨⟨⟨⟨⟨⟨⟨⟨⟨⟨⟨⟨⟨⟨j0, jj1⟩, j2⟩, j3⟩, j4⟩, j5⟩, j6⟩, j7⟩, j8⟩, jj9⟩, jj10⟩, jj11⟩, jj12⟩, j13⟩, j14⟩, j15⟩, j16⟩, j17⟩, j18⟩, j19⟩, j20⟩, j21⟩, j22⟩, j23⟩, j24⟩, j25⟩, j26⟩, j27⟩, j28⟩, j29⟩, j30⟩, j31⟩
end Go.Proofs.YtihlneenajlhoaaGreatDoor
