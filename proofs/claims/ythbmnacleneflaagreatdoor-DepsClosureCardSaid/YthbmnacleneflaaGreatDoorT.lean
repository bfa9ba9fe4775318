/-
  Closed facts of the tie of the listed tables to the program's text, by the kernel: T5.
-/
import Derived.Test.YthbmnacleneflaaGreatDoorL
import Derived.LaidByTextLater
import Derived.KernelRfl
import Derived.Test.YthbmnacleneflaaGreatDoorTt
import Derived.SevenTiedAt
set_option linter.unusedVariables false
namespace Go.Proofs.YthbmnacleneflaaGreatDoor
open Go
theorem pinFirst : Tryz.pinned.checked.prog.pinnedFits "unicode/utf8.first" = true := by kernel_rfl
theorem noOwnUnsafe : Tryz.pinned.checked.prog.headLifts.contains "ownunsafe" = false := by kernel_rfl
end Go.Proofs.YthbmnacleneflaaGreatDoor
/-
  Closed facts of the tie of the listed tables to the program's text, by the kernel: T6.
-/
set_option linter.unusedVariables false
namespace Go.Proofs.YthbmnacleneflaaGreatDoor
open Go
theorem fits1 : Tryz.pinned.checked.prog.listedFits laidL = true := by
  unfold Program.listedFits
  rw [noOwnUnsafe]
  kernel_rfl
end Go.Proofs.YthbmnacleneflaaGreatDoor
/-
  The tie of the row of jalousielaw25.DepsClosure: the listed tables hold what the program's text lays.
-/
set_option linter.unusedVariables false
namespace Go.Proofs.YthbmnacleneflaaGreatDoor
open Go
theorem same4 : laid4 = Great.laidAll := by kernel_rfl
theorem tie4 : Tryz.prog.laidByTextLater laid4 [.data, .data, .listed, .data] true := by
  rw [same4]
  exact Great.tie
theorem rowTie : Rows.depsClosureRow.laidByTextAt .later Tryz.pinned [.pinned, .data, .data, .listed, .data] true :=
  OpenClaim.laidByTextAt_pinned rfl rfl tie4 rfl rfl rfl rfl (fun y hy _e => by
    simp only [Rows.depsClosureRow, List.zip_cons_cons, List.zip_nil_right, List.mem_cons, List.mem_nil_iff, or_false] at hy
    rcases hy with rfl | rfl | rfl | rfl | rfl
    · exact ⟨pinFirst, by kernel_rfl⟩
    · cases _e
    · cases _e
    · cases _e
    · cases _e) fits1
end Go.Proofs.YthbmnacleneflaaGreatDoor
