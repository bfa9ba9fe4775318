/-
  jalousielaw25.awake returns true wherever the table strings.asciiSpace stands as it was laid; all that stood before it stands as it did.
-/
import Derived.Test.YthbmnacleneflaaGreatDoorRows
import Derived.Test.YthbmnacleneflaaGreatDoorAw3
import Derived.Test.YthbmnacleneflaaGreatDoorAwR5
import Derived.Test.YthbmnacleneflaaGreatDoorAwR7
import Derived.Test.YthbmnacleneflaaGreatDoorAwR10
import Derived.Test.YthbmnacleneflaaGreatDoorAwX
set_option linter.unusedVariables false
namespace Go.Proofs.YthbmnacleneflaaGreatDoor
open Go Go.Proofs.YthbmnacleneflaaGreatDoor.ae
theorem awake_run : okB (evalCall Tryz.prog 1 rg (orF (rowF [row5, row7, row10]) ext4) (sp hints) noD 1000 60 8 [] hh0 1) (.bool true) = true := by kernel_rfl
end Go.Proofs.YthbmnacleneflaaGreatDoor
set_option linter.unusedVariables false
namespace Go.Proofs.YthbmnacleneflaaGreatDoor
open Go Go.Proofs.YthbmnacleneflaaGreatDoor Go.Proofs.YthbmnacleneflaaGreatDoor.ae
theorem ext1_ok : CallOk Tryz.prog hh0 1 ext1 := step_ok ext0_ok chk1
theorem ext2_ok : CallOk Tryz.prog hh0 1 ext2 := step_ok ext1_ok chk2
theorem ext3_ok : CallOk Tryz.prog hh0 1 ext3 := step_ok ext2_ok chk3
theorem ext4_ok : CallOk Tryz.prog hh0 1 ext4 := step_ok ext3_ok chk4
theorem r0_ok : RowOk Tryz.prog hh0 1 row0 := row_of_chk (call_ok (orF_ok (rowF_ok (List.forall_mem_nil _)) ext4_ok) hints 60) rowOk0
theorem r1_ok : RowOk Tryz.prog hh0 1 row1 := row_of_chk (call_ok (orF_ok (rowF_ok (List.forall_mem_cons.2 ⟨r0_ok, List.forall_mem_nil _⟩)) ext4_ok) hints 60) rowOk1
theorem r2_ok : RowOk Tryz.prog hh0 1 row2 := row_of_chk (call_ok (orF_ok (rowF_ok (List.forall_mem_cons.2 ⟨r1_ok, List.forall_mem_nil _⟩)) ext4_ok) hints 60) rowOk2
theorem r3_ok : RowOk Tryz.prog hh0 1 row3 := row_of_chk (call_ok (orF_ok (rowF_ok (List.forall_mem_nil _)) ext4_ok) hints 60) rowOk3
theorem r4_ok : RowOk Tryz.prog hh0 1 row4 := row_of_chk (call_ok (orF_ok (rowF_ok (List.forall_mem_cons.2 ⟨r3_ok, List.forall_mem_nil _⟩)) ext4_ok) hints 60) rowOk4
theorem r5_ok : RowOk Tryz.prog hh0 1 row5 := row_of_chk (call_ok (orF_ok (rowF_ok (List.forall_mem_cons.2 ⟨r2_ok, List.forall_mem_cons.2 ⟨r4_ok, List.forall_mem_nil _⟩⟩)) ext4_ok) hints 60) rowOk5
theorem r6_ok : RowOk Tryz.prog hh0 1 row6 := row_of_chk (call_ok (orF_ok (rowF_ok (List.forall_mem_nil _)) ext4_ok) hints 60) rowOk6
theorem r7_ok : RowOk Tryz.prog hh0 1 row7 := row_of_chk (call_ok (orF_ok (rowF_ok (List.forall_mem_cons.2 ⟨r6_ok, List.forall_mem_nil _⟩)) ext4_ok) hints 60) rowOk7
theorem r8_ok : RowOk Tryz.prog hh0 1 row8 := row_of_chk (call_ok (orF_ok (rowF_ok (List.forall_mem_nil _)) ext4_ok) hints 60) rowOk8
theorem r9_ok : RowOk Tryz.prog hh0 1 row9 := row_of_chk (call_ok (orF_ok (rowF_ok (List.forall_mem_nil _)) ext4_ok) hints 60) rowOk9
theorem r10_ok : RowOk Tryz.prog hh0 1 row10 := row_of_chk (call_ok (orF_ok (rowF_ok (List.forall_mem_cons.2 ⟨r8_ok, List.forall_mem_cons.2 ⟨r9_ok, List.forall_mem_nil _⟩⟩)) ext4_ok) hints 60) rowOk10
theorem awake_ok : CallOk Tryz.prog hh0 1 (evalCall Tryz.prog 1 rg (orF (rowF [row5, row7, row10]) ext4) (sp hints) noD 1000 60) := call_ok (orF_ok (rowF_ok (List.forall_mem_cons.2 ⟨r5_ok, List.forall_mem_cons.2 ⟨r7_ok, List.forall_mem_cons.2 ⟨r10_ok, List.forall_mem_nil _⟩⟩⟩)) ext4_ok) hints 60
/-- awake() is true, and all that stood before it stands as it did. -/
theorem awake_calls {w : World} {c : Array Value} {fz : Nat × Nat} (h : w.heap[0]? = some (.cells c 446 fz)) (hc : c.toList = ascii) : Calls Tryz.prog 8 #[] w fun e w' => e = .returned (.bool true) ∧ Keep w.heap.size w w' :=
  let ⟨_, _, he⟩ := okB_some awake_run
  closed_calls awake_ok Tryz.func8 rfl he h hc
end Go.Proofs.YthbmnacleneflaaGreatDoor
