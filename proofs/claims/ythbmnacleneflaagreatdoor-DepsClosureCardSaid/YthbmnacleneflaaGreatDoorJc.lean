/-
  The closed facts of the row of jalousielaw25.DepsClosure, together.
-/
import Derived.Test.YthbmnacleneflaaGreatDoorJ0
import Derived.Test.YthbmnacleneflaaGreatDoorJ1
import Derived.Test.YthbmnacleneflaaGreatDoorJ2
import Derived.Test.YthbmnacleneflaaGreatDoorJ3
import Derived.Test.YthbmnacleneflaaGreatDoorJ4
import Derived.Test.YthbmnacleneflaaGreatDoorJ5
import Derived.Test.YthbmnacleneflaaGreatDoorJ6
import Derived.Test.YthbmnacleneflaaGreatDoorJ7
import Derived.Test.YthbmnacleneflaaGreatDoorJ8
import Derived.Test.YthbmnacleneflaaGreatDoorJ9
import Derived.Test.YthbmnacleneflaaGreatDoorBj
namespace Go.Proofs.YthbmnacleneflaaGreatDoor
open Go
set_option maxRecDepth 100000 in
theorem closed : joinedFacts Tryz.prog 3 Tryz.f3 Rows.depsClosureSpec Rows.depsClosureRow = true := by
  unfold joinedFacts
  simp only [Bool.and_eq_true]
  exact ⟨⟨⟨⟨⟨⟨⟨⟨⟨⟨⟨⟨⟨⟨⟨⟨⟨⟨⟨⟨⟨⟨⟨⟨⟨⟨⟨⟨⟨⟨⟨j0, jj1⟩, j2⟩, j3⟩, j4⟩, j5⟩, j6⟩, j7⟩, j8⟩, jj9⟩, jj10⟩, jj11⟩, jj12⟩, j13⟩, j14⟩, j15⟩, j16⟩, j17⟩, j18⟩, j19⟩, j20⟩, j21⟩, j22⟩, j23⟩, j24⟩, j25⟩, j26⟩, j27⟩, j28⟩, j29⟩, j30⟩, j31⟩
end Go.Proofs.YthbmnacleneflaaGreatDoor
