/-
 Closed facts on the start at which the row of jalousielaw27.ScriptLines is met, by the kernel: W3.
-/
import Derived.Test.YtihlneenajlhoaaGreatDoorL
import Derived.KernelRfl
import Derived.Stop.Joined
set_option linter.unusedVariables false
namespace Go.Proofs.YtihlneenajlhoaaGreatDoor
open Go
theorem wok (os:Os):Input.okWideB Tryz.checked.prog (w0 os) 3 ⟨#[],nilArgs,[]⟩=true:=by kernel_rfl
theorem wpre (os:Os) (H:Type) (enc:TypeId×Value→H):(DataW.whole enc Tryz.checked.prog (w0 os).memory Tryz.f3.params.toList (Rows.OpenSpec.upto Rows.scriptLinesSpec).vars false nilArgs.toList 8).map (fun x=>(x.1,x.2.1))=some ([.lit (.string [])],[]):=by kernel_rfl
theorem wsz (os:Os) (H:Type) (enc:TypeId×Value→H):(Rows.OpenSpec.upto Rows.scriptLinesSpec).bare.sizedB enc Tryz.checked.prog Tryz.f3 false (w0 os).memory nilArgs 8=true:=by kernel_rfl
end Go.Proofs.YtihlneenajlhoaaGreatDoor
