/-
  jalousielaw29.ConsoleNone returns true wherever the table strings.asciiSpace stands as it was laid; all that stood before it stands as it did.
-/
import Derived.Test.YtoadkbokfihhnaaGreatDoorAwX
import Derived.Test.YtoadkbokfihhnaaGreatDoorAwZ
set_option linter.unusedVariables false
namespace Go.Proofs.YtoadkbokfihhnaaGreatDoor
open Go Go.Proofs.YtoadkbokfihhnaaGreatDoor Go.Proofs.YtoadkbokfihhnaaGreatDoor.ae
theorem ext1_ok : CallOk Tryz.prog hh0 5 ext1 := step_ok ext0_ok chk1
theorem ext2_ok : CallOk Tryz.prog hh0 5 ext2 := step_ok ext1_ok chk2
theorem ext3_ok : CallOk Tryz.prog hh0 5 ext3 := step_ok ext2_ok chk3
theorem r0_ok : RowOk Tryz.prog hh0 5 row0 := row_of_chk (call_ok (orF_ok (rowF_ok (List.forall_mem_nil _)) ext3_ok) hints 60) rowOk0
theorem r1_ok : RowOk Tryz.prog hh0 5 row1 := row_of_chk (call_ok (orF_ok (rowF_ok (List.forall_mem_cons.2 ⟨r0_ok, List.forall_mem_nil _⟩)) ext3_ok) hints 60) rowOk1
theorem r2_ok : RowOk Tryz.prog hh0 5 row2 := row_of_chk (call_ok (orF_ok (rowF_ok (List.forall_mem_cons.2 ⟨r1_ok, List.forall_mem_nil _⟩)) ext3_ok) hints 60) rowOk2
theorem r3_ok : RowOk Tryz.prog hh0 5 row3 := row_of_chk (call_ok (orF_ok (rowF_ok (List.forall_mem_cons.2 ⟨r2_ok, List.forall_mem_nil _⟩)) ext3_ok) hints 60) rowOk3
theorem none_ok : CallOk Tryz.prog hh0 5 (evalCall Tryz.prog 5 rg (orF (rowF [row3]) ext3) (sp hints) noD 1000 60) := call_ok (orF_ok (rowF_ok (List.forall_mem_cons.2 ⟨r3_ok, List.forall_mem_nil _⟩)) ext3_ok) hints 60
/-- ConsoleNone() is true, and all that stood before it stands as it did. -/
theorem none_calls {w : World} {c : Array Value} {fz : Nat × Nat} (h : w.heap[4]? = some (.cells c 540 fz)) (hc : c.toList = ascii) : Calls Tryz.prog 3 #[] w fun e w' => e = .returned (.bool true) ∧ Keep w.heap.size w w' :=
  let ⟨_, _, he⟩ := okB_some none_run
  closed_calls none_ok Tryz.func3 rfl he h hc
end Go.Proofs.YtoadkbokfihhnaaGreatDoor
