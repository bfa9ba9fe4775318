/-
 The run of jalousielaw27.awake over known values: it hands back true.
-/
import Derived.Test.YtihlneenajlhoaaGreatDoorAwX
import Derived.Test.YtihlneenajlhoaaGreatDoorAw3
import Derived.Test.YtihlneenajlhoaaGreatDoorAwR18
set_option linter.unusedVariables false
namespace Go.Proofs.YtihlneenajlhoaaGreatDoor
open Go Go.Proofs.YtihlneenajlhoaaGreatDoor.ae
theorem awake_run:okB (evalCall Tryz.prog 7 rg (orF (rowF [row18]) ext4) (sp hints) noD 1000 60 12 [] hh0 7) (.bool true)=true:=by kernel_rfl
end Go.Proofs.YtihlneenajlhoaaGreatDoor
/-
 jalousielaw27.awake returns true wherever the table strings.asciiSpace stands as it was laid; all that stood before it stands as it did.
-/
set_option linter.unusedVariables false
namespace Go.Proofs.YtihlneenajlhoaaGreatDoor
open Go Go.Proofs.YtihlneenajlhoaaGreatDoor Go.Proofs.YtihlneenajlhoaaGreatDoor.ae
theorem ext1_ok:CallOk Tryz.prog hh0 7 ext1:=step_ok ext0_ok chk1
theorem ext2_ok:CallOk Tryz.prog hh0 7 ext2:=step_ok ext1_ok chk2
theorem ext3_ok:CallOk Tryz.prog hh0 7 ext3:=step_ok ext2_ok chk3
theorem ext4_ok:CallOk Tryz.prog hh0 7 ext4:=step_ok ext3_ok chk4
theorem r0_ok:RowOk Tryz.prog hh0 7 row0:=row_of_chk (call_ok (orF_ok (rowF_ok (List.forall_mem_nil _)) ext4_ok) hints 60) rowOk0
theorem r1_ok:RowOk Tryz.prog hh0 7 row1:=row_of_chk (call_ok (orF_ok (rowF_ok (List.forall_mem_cons.2 ⟨r0_ok,List.forall_mem_nil _⟩)) ext4_ok) hints 60) rowOk1
theorem r2_ok:RowOk Tryz.prog hh0 7 row2:=row_of_chk (call_ok (orF_ok (rowF_ok (List.forall_mem_cons.2 ⟨r1_ok,List.forall_mem_nil _⟩)) ext4_ok) hints 60) rowOk2
theorem r3_ok:RowOk Tryz.prog hh0 7 row3:=row_of_chk (call_ok (orF_ok (rowF_ok (List.forall_mem_nil _)) ext4_ok) hints 60) rowOk3
theorem r4_ok:RowOk Tryz.prog hh0 7 row4:=row_of_chk (call_ok (orF_ok (rowF_ok (List.forall_mem_cons.2 ⟨r3_ok,List.forall_mem_nil _⟩)) ext4_ok) hints 60) rowOk4
theorem r5_ok:RowOk Tryz.prog hh0 7 row5:=row_of_chk (call_ok (orF_ok (rowF_ok (List.forall_mem_nil _)) ext4_ok) hints 60) rowOk5
theorem r6_ok:RowOk Tryz.prog hh0 7 row6:=row_of_chk (call_ok (orF_ok (rowF_ok (List.forall_mem_nil _)) ext4_ok) hints 60) rowOk6
theorem r7_ok:RowOk Tryz.prog hh0 7 row7:=row_of_chk (call_ok (orF_ok (rowF_ok (List.forall_mem_nil _)) ext4_ok) hints 60) rowOk7
theorem r8_ok:RowOk Tryz.prog hh0 7 row8:=row_of_chk (call_ok (orF_ok (rowF_ok (List.forall_mem_cons.2 ⟨r6_ok,List.forall_mem_cons.2 ⟨r7_ok,List.forall_mem_nil _⟩⟩)) ext4_ok) hints 60) rowOk8
theorem r9_ok:RowOk Tryz.prog hh0 7 row9:=row_of_chk (call_ok (orF_ok (rowF_ok (List.forall_mem_nil _)) ext4_ok) hints 60) rowOk9
theorem r10_ok:RowOk Tryz.prog hh0 7 row10:=row_of_chk (call_ok (orF_ok (rowF_ok (List.forall_mem_cons.2 ⟨r8_ok,List.forall_mem_cons.2 ⟨r9_ok,List.forall_mem_nil _⟩⟩)) ext4_ok) hints 60) rowOk10
theorem r11_ok:RowOk Tryz.prog hh0 7 row11:=row_of_chk (call_ok (orF_ok (rowF_ok (List.forall_mem_nil _)) ext4_ok) hints 60) rowOk11
theorem r12_ok:RowOk Tryz.prog hh0 7 row12:=row_of_chk (call_ok (orF_ok (rowF_ok (List.forall_mem_nil _)) ext4_ok) hints 60) rowOk12
theorem r13_ok:RowOk Tryz.prog hh0 7 row13:=row_of_chk (call_ok (orF_ok (rowF_ok (List.forall_mem_nil _)) ext4_ok) hints 60) rowOk13
theorem r14_ok:RowOk Tryz.prog hh0 7 row14:=row_of_chk (call_ok (orF_ok (rowF_ok (List.forall_mem_nil _)) ext4_ok) hints 60) rowOk14
theorem r15_ok:RowOk Tryz.prog hh0 7 row15:=row_of_chk (call_ok (orF_ok (rowF_ok (List.forall_mem_cons.2 ⟨r13_ok,List.forall_mem_cons.2 ⟨r14_ok,List.forall_mem_nil _⟩⟩)) ext4_ok) hints 60) rowOk15
theorem r16_ok:RowOk Tryz.prog hh0 7 row16:=row_of_chk (call_ok (orF_ok (rowF_ok (List.forall_mem_cons.2 ⟨r12_ok,List.forall_mem_cons.2 ⟨r15_ok,List.forall_mem_nil _⟩⟩)) ext4_ok) hints 60) rowOk16
theorem r17_ok:RowOk Tryz.prog hh0 7 row17:=row_of_chk (call_ok (orF_ok (rowF_ok (List.forall_mem_cons.2 ⟨r10_ok,List.forall_mem_cons.2 ⟨r11_ok,List.forall_mem_cons.2 ⟨r16_ok,List.forall_mem_nil _⟩⟩⟩)) ext4_ok) hints 60) rowOk17
theorem r18_ok:RowOk Tryz.prog hh0 7 row18:=row_of_chk (call_ok (orF_ok (rowF_ok (List.forall_mem_cons.2 ⟨r2_ok,List.forall_mem_cons.2 ⟨r4_ok,List.forall_mem_cons.2 ⟨r5_ok,List.forall_mem_cons.2 ⟨r17_ok,List.forall_mem_nil _⟩⟩⟩⟩)) ext4_ok) hints 60) rowOk18
theorem awake_ok:CallOk Tryz.prog hh0 7 (evalCall Tryz.prog 7 rg (orF (rowF [row18]) ext4) (sp hints) noD 1000 60):=call_ok (orF_ok (rowF_ok (List.forall_mem_cons.2 ⟨r18_ok,List.forall_mem_nil _⟩)) ext4_ok) hints 60
theorem awake_calls {w:World} {c:Array Value} {fz:Nat×Nat} (h:w.heap[6]?=some (.cells c 314 fz)) (hc:c.toList=ascii):Calls Tryz.prog 12 #[] w fun e w'=>e=.returned (.bool true)∧Keep w.heap.size w w' :=
 let ⟨_,_,he⟩:=okB_some awake_run
 closed_calls awake_ok Tryz.func12 rfl he h hc
end Go.Proofs.YtihlneenajlhoaaGreatDoor
