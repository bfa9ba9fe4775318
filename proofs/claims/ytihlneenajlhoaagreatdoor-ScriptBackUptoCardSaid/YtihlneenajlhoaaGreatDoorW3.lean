/-
 Closed facts on the start at which the row of jalousielaw27.ScriptBack is met, by the kernel: W3.
-/
import Derived.Test.YtihlneenajlhoaaGreatDoorL
import Derived.KernelRfl
import Derived.Stop.Joined
set_option linter.unusedVariables false
namespace Go.Proofs.YtihlneenajlhoaaGreatDoor
open Go
theorem XT (os:Os):Input.okWideB Tryz.checked.prog (w0 os) 8 ⟨#[],KD,[]⟩=true:=by kernel_rfl
theorem wpre (os:Os) (H:Type) (enc:TypeId×Value→H):(DataW.whole enc Tryz.checked.prog (w0 os).memory Tryz.f8.params.toList (Rows.OpenSpec.upto Rows.scriptBackSpec).vars false KD.toList 8).map (fun x=>(x.1,x.2.1))=some ([.nil],[]):=by kernel_rfl
theorem lU (os:Os) (H:Type) (enc:TypeId×Value→H):(Rows.OpenSpec.upto Rows.scriptBackSpec).bare.sizedB enc Tryz.checked.prog Tryz.f8 false (w0 os).memory KD 8=true:=by kernel_rfl
end Go.Proofs.YtihlneenajlhoaaGreatDoor
