/-
 Closed facts on the start at which the row of jalousielaw27.ScriptSpaces is met, by the kernel: W4.
-/
import Derived.Test.YtihlneenajlhoaaGreatDoorL
import Derived.KernelRfl
set_option linter.unusedVariables false
namespace Go.Proofs.YtihlneenajlhoaaGreatDoor
open Go
theorem wf1 (os:Os):(World.holding Tryz.prog os ⟨#[],nilArgs,[]⟩).layFits Tryz.prog laidL []=true:=by kernel_rfl
theorem wf2 (os:Os):(World.holding Tryz.prog os ⟨#[],nilArgs,[]⟩).layIfaces Tryz.prog laidL (World.laidAll Tryz.prog os laidL)=true:=by kernel_rfl
theorem plainL:(laidL.all fun x=>x.2.handleName?.isNone)=true:=by kernel_rfl
theorem rowAscii:(((begin Tryz.prog (fun _ _=>0) default).world.heap[6]?).bind Obj.row?).map (·.2)=some 314:=by kernel_rfl
theorem own:ownKnob Tryz.prog.godebug=none:=by kernel_rfl
theorem noInit:Tryz.checked.prog.inits.idxOf? 6=none:=by kernel_rfl
theorem gAscii:Tryz.prog.globalNamed "strings.asciiSpace" = some 6:=by kernel_rfl
end Go.Proofs.YtihlneenajlhoaaGreatDoor
