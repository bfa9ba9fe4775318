/-
  The closed facts of the row of jalousielaw29.ConsoleNone, together.
-/
import Derived.Test.YtoadkbokfihhnaaGreatDoorJ0
import Derived.Test.YtoadkbokfihhnaaGreatDoorJ1
import Derived.Test.YtoadkbokfihhnaaGreatDoorJ2
import Derived.Test.YtoadkbokfihhnaaGreatDoorJ3
import Derived.Test.YtoadkbokfihhnaaGreatDoorJ4
import Derived.Test.YtoadkbokfihhnaaGreatDoorJ5
import Derived.Test.YtoadkbokfihhnaaGreatDoorJ6
import Derived.Test.YtoadkbokfihhnaaGreatDoorJ7
import Derived.Test.YtoadkbokfihhnaaGreatDoorJ8
import Derived.Test.YtoadkbokfihhnaaGreatDoorJ9
import Derived.Test.YtoadkbokfihhnaaGreatDoorBj
namespace Go.Proofs.YtoadkbokfihhnaaGreatDoor
open Go
set_option maxRecDepth 100000 in
theorem closed : joinedFacts Tryz.prog 3 Tryz.f3 Rows.consoleNoneSpec Rows.consoleNoneRow = true := by
  unfold joinedFacts
  simp only [Bool.and_eq_true]
  exact ⟨⟨⟨⟨⟨⟨⟨⟨⟨⟨⟨⟨⟨⟨⟨⟨⟨⟨⟨⟨⟨⟨⟨⟨⟨⟨⟨⟨⟨⟨⟨j0, jj1⟩, j2⟩, j3⟩, j4⟩, j5⟩, j6⟩, j7⟩, j8⟩, jj9⟩, jj10⟩, jj11⟩, jj12⟩, j13⟩, j14⟩, j15⟩, j16⟩, j17⟩, j18⟩, j19⟩, j20⟩, j21⟩, j22⟩, j23⟩, j24⟩, j25⟩, j26⟩, j27⟩, j28⟩, j29⟩, j30⟩, j31⟩
end Go.Proofs.YtoadkbokfihhnaaGreatDoor
