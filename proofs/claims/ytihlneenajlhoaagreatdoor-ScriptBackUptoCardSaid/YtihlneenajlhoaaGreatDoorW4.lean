/-
 Closed facts on the start at which the row of jalousielaw27.ScriptBack is met, by the kernel: W4.
-/
import Derived.Test.YtihlneenajlhoaaGreatDoorL
import Derived.KernelRfl
set_option linter.unusedVariables false
namespace Go.Proofs.YtihlneenajlhoaaGreatDoor
open Go
theorem wf1 (os:Os):(World.holding Tryz.prog os ⟨#[],KD,[]⟩).layFits Tryz.prog Gs []=true:=by kernel_rfl
theorem wf2 (os:Os):(World.holding Tryz.prog os ⟨#[],KD,[]⟩).layIfaces Tryz.prog Gs (World.laidAll Tryz.prog os Gs)=true:=by kernel_rfl
theorem Tz:(Gs.all fun x=>x.2.handleName?.isNone)=true:=by kernel_rfl
theorem lK:(((begin Tryz.prog (fun _ _=>0) default).world.heap[6]?).bind Obj.row?).map (·.2)=some 314:=by kernel_rfl
theorem own:ownKnob Tryz.prog.godebug=none:=by kernel_rfl
theorem noInit:Tryz.checked.prog.inits.idxOf? 8=none:=by kernel_rfl
theorem XR:Tryz.prog.globalNamed "strings.asciiSpace" = some 6:=by kernel_rfl
end Go.Proofs.YtihlneenajlhoaaGreatDoor
