/-
  The types' rows are laid out, part by part, by the kernel.
-/
import Derived.Test.YtoadkbokfihhnaaGreatDoorProg
import Derived.Test.YtoadkbokfihhnaaGreatDoorBig
import Derived.KernelRfl
set_option linter.unusedVariables false
set_option maxRecDepth 1000000
namespace Go.Proofs.YtoadkbokfihhnaaGreatDoor
open Go Go.Proofs.YtoadkbokfihhnaaGreatDoor.big Go.Proofs.YtoadkbokfihhnaaGreatDoor.ae
theorem ho0 : (((List.range Tryz.prog.types.size).drop 0).take 300).all (rowFine Tryz.prog) = true := by kernel_rfl
theorem ho1 : (((List.range Tryz.prog.types.size).drop 300).take 300).all (rowFine Tryz.prog) = true := by kernel_rfl
theorem ho2 : (((List.range Tryz.prog.types.size).drop 600).take 275).all (rowFine Tryz.prog) = true := by kernel_rfl
theorem hglob : Tryz.prog.globals.all (fun g => decide (g.type < Tryz.prog.types.size)) = true := by kernel_rfl
end Go.Proofs.YtoadkbokfihhnaaGreatDoor
