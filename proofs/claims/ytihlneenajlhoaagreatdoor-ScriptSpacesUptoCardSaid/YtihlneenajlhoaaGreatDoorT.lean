/-
 Closed facts of the tie of the listed tables to the program's text, by the kernel: T5.
-/
import Derived.Test.YtihlneenajlhoaaGreatDoorL
import Derived.LaidByTextLater
import Derived.KernelRfl
import Derived.Test.YtihlneenajlhoaaGreatDoorTt
import Derived.SevenTiedAt
set_option linter.unusedVariables false
namespace Go.Proofs.YtihlneenajlhoaaGreatDoor
open Go
theorem pinFirst:Tryz.pinned.checked.prog.pinnedFits "unicode/utf8.first" = true:=by kernel_rfl
theorem noOwnUnsafe:Tryz.pinned.checked.prog.headLifts.contains "ownunsafe" = false:=by kernel_rfl
theorem fits1:Tryz.pinned.checked.prog.listedFits laidL=true:=by
 unfold Program.listedFits
 rw [noOwnUnsafe]
 kernel_rfl
theorem same6:laid6=Great.laidAll:=by kernel_rfl
theorem tie6:Tryz.prog.laidByTextLater laid6 [.data,.data,.data,.data,.listed,.data] true:=by
 rw [same6]
 exact Great.tie
theorem rowTie:Rows.scriptSpacesUptoRow.laidByTextAt .later Tryz.pinned [.data,.data,.data,.data,.listed,.pinned,.data] true :=
 OpenClaim.laidByTextAt_pinned rfl rfl tie6 rfl rfl rfl rfl (fun y hy _e=>by
  simp only [Rows.scriptSpacesUptoRow,List.zip_cons_cons,List.zip_nil_right,List.mem_cons,List.mem_nil_iff,or_false] at hy
  rcases hy with rfl | rfl | rfl | rfl | rfl | rfl | rfl
  ·cases _e
  ·cases _e
  ·cases _e
  ·cases _e
  ·cases _e
  ·exact ⟨pinFirst,by kernel_rfl⟩
  ·cases _e) fits1
end Go.Proofs.YtihlneenajlhoaaGreatDoor
