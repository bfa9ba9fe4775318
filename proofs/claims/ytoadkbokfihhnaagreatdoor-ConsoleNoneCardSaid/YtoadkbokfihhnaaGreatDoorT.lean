/-
  The tie of the row of jalousielaw29.ConsoleNone: the listed tables hold what the program's text lays.
-/
import Derived.Test.YtoadkbokfihhnaaGreatDoorTt
import Derived.Test.YtoadkbokfihhnaaGreatDoorT5
import Derived.Test.YtoadkbokfihhnaaGreatDoorT6
import Derived.LaidByTextLater
import Derived.SevenTiedAt
import Derived.KernelRfl
set_option linter.unusedVariables false
namespace Go.Proofs.YtoadkbokfihhnaaGreatDoor
open Go
theorem same6 : laid6 = Great.laidAll := by kernel_rfl
theorem tie6 : Tryz.prog.laidByTextLater laid6 [.data, .data, .data, .data, .data, .listed] true := by
  rw [same6]
  exact Great.tie
theorem rowTie : Rows.consoleNoneRow.laidByTextAt .later Tryz.pinned [.pinned, .data, .data, .data, .data, .data, .listed] true :=
  OpenClaim.laidByTextAt_pinned rfl rfl tie6 rfl rfl rfl rfl (fun y hy _e => by
    simp only [Rows.consoleNoneRow, List.zip_cons_cons, List.zip_nil_right, List.mem_cons, List.mem_nil_iff, or_false] at hy
    rcases hy with rfl | rfl | rfl | rfl | rfl | rfl | rfl
    · exact ⟨pinFirst, by kernel_rfl⟩
    · cases _e
    · cases _e
    · cases _e
    · cases _e
    · cases _e
    · cases _e) fits1
end Go.Proofs.YtoadkbokfihhnaaGreatDoor
