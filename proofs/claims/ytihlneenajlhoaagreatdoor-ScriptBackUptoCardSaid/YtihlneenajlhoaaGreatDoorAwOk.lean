/-
 The run of jalousielaw27.awake over known values: it hands back true.
-/
import Derived.Test.YtihlneenajlhoaaGreatDoorAwX
import Derived.Test.YtihlneenajlhoaaGreatDoorAw3
import Derived.Test.YtihlneenajlhoaaGreatDoorAwR18
set_option linter.unusedVariables false
namespace Go.Proofs.YtihlneenajlhoaaGreatDoor
open Go Go.Proofs.YtihlneenajlhoaaGreatDoor.ae
theorem iK:okB (Gq Tryz.prog 7 rg (DI (EI [QD]) EQ) (sp hints) noD 1000 60 12 [] hh0 7) (.bool true)=true:=by kernel_rfl
end Go.Proofs.YtihlneenajlhoaaGreatDoor
/-
 jalousielaw27.awake returns true wherever the table strings.asciiSpace stands as it was laid; all that stood before it stands as it did.
-/
set_option linter.unusedVariables false
namespace Go.Proofs.YtihlneenajlhoaaGreatDoor
open Go Go.Proofs.YtihlneenajlhoaaGreatDoor Go.Proofs.YtihlneenajlhoaaGreatDoor.ae
theorem iL:Bg Tryz.prog hh0 7 ext1:=step_ok iM chk1
theorem iO:Bg Tryz.prog hh0 7 TK:=step_ok iL iH
theorem iP:Bg Tryz.prog hh0 7 TL:=step_ok iO iI
theorem En:Bg Tryz.prog hh0 7 EQ:=step_ok iP iJ
theorem iQ:EZ Tryz.prog hh0 7 row0:=Ez (Eb (EH (Em (List.forall_mem_nil _)) En) hints 60) iR
theorem iT:EZ Tryz.prog hh0 7 TS:=Ez (Eb (EH (Em (List.forall_mem_cons.2 ⟨iQ,List.forall_mem_nil _⟩)) En) hints 60) iU
theorem iV:EZ Tryz.prog hh0 7 TT:=Ez (Eb (EH (Em (List.forall_mem_cons.2 ⟨iT,List.forall_mem_nil _⟩)) En) hints 60) rowOk2
theorem iW:EZ Tryz.prog hh0 7 row3:=Ez (Eb (EH (Em (List.forall_mem_nil _)) En) hints 60) iY
theorem iZ:EZ Tryz.prog hh0 7 row4:=Ez (Eb (EH (Em (List.forall_mem_cons.2 ⟨iW,List.forall_mem_nil _⟩)) En) hints 60) jA
theorem jB:EZ Tryz.prog hh0 7 TU:=Ez (Eb (EH (Em (List.forall_mem_nil _)) En) hints 60) jC
theorem jD:EZ Tryz.prog hh0 7 TV:=Ez (Eb (EH (Em (List.forall_mem_nil _)) En) hints 60) jE
theorem jF:EZ Tryz.prog hh0 7 TW:=Ez (Eb (EH (Em (List.forall_mem_nil _)) En) hints 60) jG
theorem jH:EZ Tryz.prog hh0 7 TY:=Ez (Eb (EH (Em (List.forall_mem_cons.2 ⟨jD,List.forall_mem_cons.2 ⟨jF,List.forall_mem_nil _⟩⟩)) En) hints 60) jI
theorem jJ:EZ Tryz.prog hh0 7 TZ:=Ez (Eb (EH (Em (List.forall_mem_nil _)) En) hints 60) jK
theorem jL:EZ Tryz.prog hh0 7 Tc:=Ez (Eb (EH (Em (List.forall_mem_cons.2 ⟨jH,List.forall_mem_cons.2 ⟨jJ,List.forall_mem_nil _⟩⟩)) En) hints 60) jM
theorem jO:EZ Tryz.prog hh0 7 Td:=Ez (Eb (EH (Em (List.forall_mem_nil _)) En) hints 60) jP
theorem jQ:EZ Tryz.prog hh0 7 Tf:=Ez (Eb (EH (Em (List.forall_mem_nil _)) En) hints 60) jR
theorem jS:EZ Tryz.prog hh0 7 Ti:=Ez (Eb (EH (Em (List.forall_mem_nil _)) En) hints 60) jT
theorem jU:EZ Tryz.prog hh0 7 Tj:=Ez (Eb (EH (Em (List.forall_mem_nil _)) En) hints 60) jV
theorem jW:EZ Tryz.prog hh0 7 Tm:=Ez (Eb (EH (Em (List.forall_mem_cons.2 ⟨jS,List.forall_mem_cons.2 ⟨jU,List.forall_mem_nil _⟩⟩)) En) hints 60) jX
theorem jY:EZ Tryz.prog hh0 7 Tn:=Ez (Eb (EH (Em (List.forall_mem_cons.2 ⟨jQ,List.forall_mem_cons.2 ⟨jW,List.forall_mem_nil _⟩⟩)) En) hints 60) jZ
theorem kC:EZ Tryz.prog hh0 7 Tq:=Ez (Eb (EH (Em (List.forall_mem_cons.2 ⟨jL,List.forall_mem_cons.2 ⟨jO,List.forall_mem_cons.2 ⟨jY,List.forall_mem_nil _⟩⟩⟩)) En) hints 60) kD
theorem kE:EZ Tryz.prog hh0 7 QD:=Ez (Eb (EH (Em (List.forall_mem_cons.2 ⟨iV,List.forall_mem_cons.2 ⟨iZ,List.forall_mem_cons.2 ⟨jB,List.forall_mem_cons.2 ⟨kC,List.forall_mem_nil _⟩⟩⟩⟩)) En) hints 60) kF
theorem kG:Bg Tryz.prog hh0 7 (Gq Tryz.prog 7 rg (DI (EI [QD]) EQ) (sp hints) noD 1000 60):=Eb (EH (Em (List.forall_mem_cons.2 ⟨kE,List.forall_mem_nil _⟩)) En) hints 60
theorem kH {w:World} {c:Array Value} {fz:Nat×Nat} (h:w.heap[6]?=some (.cells c 314 fz)) (hc:c.toList=ascii):Calls Tryz.prog 12 #[] w fun e w'=>e=.returned (.bool true)∧Keep w.heap.size w w' :=
 let ⟨_,_,he⟩:=kJ iK
 kK kG Tryz.func12 rfl he h hc
end Go.Proofs.YtihlneenajlhoaaGreatDoor
