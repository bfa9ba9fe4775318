/-
  Closed facts of the row over the closure of the law's calls.
-/
import Derived.Test.YtoadkbokfihhnaaGreatDoorRows
import Derived.Test.YtoadkbokfihhnaaGreatDoorBc
import Derived.Test.YtoadkbokfihhnaaGreatDoorBo
import Derived.JoinedOf
set_option linter.unusedVariables false
set_option maxRecDepth 1000000
namespace Go.Proofs.YtoadkbokfihhnaaGreatDoor
open Go Go.Proofs.YtoadkbokfihhnaaGreatDoor.big Go.Proofs.YtoadkbokfihhnaaGreatDoor.ae
theorem jj1 : laidOutB Tryz.prog = true := by
  unfold laidOutB
  have h1 : (List.range Tryz.prog.types.size).all (rowFine Tryz.prog) = true := (part_all _ _ 0 300 ho0 (part_all _ _ 300 300 ho1 (part_all _ _ 600 275 ho2 (by kernel_rfl : ((List.range Tryz.prog.types.size).drop 875).all (rowFine Tryz.prog) = true))))
  have h2 : Tryz.prog.funcs.all (fun f => f.params.all fun t => decide (t < Tryz.prog.types.size)) = true := by
    rw [← Array.all_toList]
    exact (part_all _ _ 0 190 hf0 (part_all _ _ 190 190 hf1 (part_all _ _ 380 190 hf2 (part_all _ _ 570 189 hf3 (by kernel_rfl : (Tryz.prog.funcs.toList.drop 759).all (fun f => f.params.all fun t => decide (t < Tryz.prog.types.size)) = true)))))
  rw [h1, hglob, h2]
  rfl
theorem jj9 : (Rows.consoleNoneRow.inPlace == Tryz.prog.inPlace 3) = true := by rw [inPlace_eq hi si hclo]; kernel_rfl
theorem jj10 : (Rows.consoleNoneRow.unfollowed == Tryz.prog.unfollowed 3) = true := by rw [hunf]; kernel_rfl
theorem jj11 : (Rows.consoleNoneRow.recurses == Tryz.prog.recurses 3) = true := by rw [recurses_of hunf]; kernel_rfl
theorem jj12 : (Rows.consoleNoneRow.named == Tryz.prog.varsNamed 3) = true := by rw [varsNamed_eq hg sg he se hclo]; kernel_rfl
end Go.Proofs.YtoadkbokfihhnaaGreatDoor
