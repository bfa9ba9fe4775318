/-
  Closed facts on the start at which the row of jalousielaw29.ConsoleNone is met, by the kernel: W3.
-/
import Derived.Test.YtoadkbokfihhnaaGreatDoorL
import Derived.KernelRfl
set_option linter.unusedVariables false
namespace Go.Proofs.YtoadkbokfihhnaaGreatDoor
open Go
theorem wok (os : Os) : Input.okWideB Tryz.checked.prog (w0 os) 3 ⟨#[], #[], []⟩ = true := by kernel_rfl
theorem wpre (os : Os) (H : Type) (enc : TypeId × Value → H) : Rows.consoleNoneSpec.preB enc Tryz.checked.prog Tryz.f3 [] false (w0 os).memory #[] 8 = true := by kernel_rfl
theorem wsz (os : Os) (H : Type) (enc : TypeId × Value → H) : Rows.consoleNoneSpec.sizedB enc Tryz.checked.prog Tryz.f3 false (w0 os).memory #[] 8 = true := by kernel_rfl
end Go.Proofs.YtoadkbokfihhnaaGreatDoor
