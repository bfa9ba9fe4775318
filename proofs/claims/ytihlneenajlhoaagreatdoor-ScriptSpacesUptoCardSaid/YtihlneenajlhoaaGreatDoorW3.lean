/-
 Closed facts on the start at which the row of jalousielaw27.ScriptSpaces is met, by the kernel: W3.
-/
import Derived.Test.YtihlneenajlhoaaGreatDoorL
import Derived.KernelRfl
import Derived.Stop.Joined
set_option linter.unusedVariables false
namespace Go.Proofs.YtihlneenajlhoaaGreatDoor
open Go
theorem wok (os:Os):Input.okWideB Tryz.checked.prog (w0 os) 6 ⟨#[],nilArgs,[]⟩=true:=by kernel_rfl
theorem wpre (os:Os) (H:Type) (enc:TypeId×Value→H):(DataW.whole enc Tryz.checked.prog (w0 os).memory Tryz.f6.params.toList (Rows.OpenSpec.upto Rows.scriptSpacesSpec).vars false nilArgs.toList 8).map (fun x=>(x.1,x.2.1))=some ([.nil,.lit (.int .i64 0)],[]):=by kernel_rfl
theorem wsz (os:Os) (H:Type) (enc:TypeId×Value→H):(Rows.OpenSpec.upto Rows.scriptSpacesSpec).bare.sizedB enc Tryz.checked.prog Tryz.f6 false (w0 os).memory nilArgs 8=true:=by kernel_rfl
end Go.Proofs.YtihlneenajlhoaaGreatDoor
