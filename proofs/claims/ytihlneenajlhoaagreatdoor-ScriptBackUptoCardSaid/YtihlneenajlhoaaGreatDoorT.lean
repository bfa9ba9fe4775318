/-
 Closed facts of the tie of the listed tables to the program's text, by the kernel: T5.
-/
import Derived.Test.YtihlneenajlhoaaGreatDoorL
import Derived.LaidByTextLater
import Derived.KernelRfl
import Derived.Test.YtihlneenajlhoaaGreatDoorTt
import Derived.SevenTiedAt
set_option linter.unusedVariables false
namespace Go.Proofs.YtihlneenajlhoaaGreatDoor
open Go
theorem AB7:Tryz.pinned.checked.prog.pinnedFits "unicode/utf8.first" = true:=by kernel_rfl
theorem AB8:Tryz.pinned.checked.prog.headLifts.contains "ownunsafe" = false:=by kernel_rfl
theorem AB9:Tryz.pinned.checked.prog.listedFits Gs=true:=by
 unfold Program.listedFits
 rw [AB8]
 kernel_rfl
theorem ACA:XQ=Great.laidAll:=by kernel_rfl
theorem ACB:Tryz.prog.laidByTextLater XQ [.data,.data,.data,.data,.listed,.data] true:=by
 rw [ACA]
 exact Great.tie
theorem mM:Rows.scriptBackUptoRow.laidByTextAt .later Tryz.pinned [.data,.data,.data,.data,.listed,.pinned,.data] true :=
 OpenClaim.laidByTextAt_pinned rfl rfl ACB rfl rfl rfl rfl (fun y hy _e=>by
  simp only [Rows.scriptBackUptoRow,List.zip_cons_cons,List.zip_nil_right,List.mem_cons,List.mem_nil_iff,or_false] at hy
  rcases hy with rfl | rfl | rfl | rfl | rfl | rfl | rfl
  ·cases _e
  ·cases _e
  ·cases _e
  ·cases _e
  ·cases _e
  ·exact ⟨AB7,by kernel_rfl⟩
  ·cases _e) AB9
end Go.Proofs.YtihlneenajlhoaaGreatDoor
