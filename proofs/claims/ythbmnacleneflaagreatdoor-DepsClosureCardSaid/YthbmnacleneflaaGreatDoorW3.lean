/-
  Closed facts on the start at which the row of jalousielaw25.DepsClosure is met, by the kernel: W3.
-/
import Derived.Test.YthbmnacleneflaaGreatDoorL
import Derived.KernelRfl
set_option linter.unusedVariables false
namespace Go.Proofs.YthbmnacleneflaaGreatDoor
open Go
theorem wok (os : Os) : Input.okWideB Tryz.checked.prog (w0 os) 3 ⟨#[], nilArgs, []⟩ = true := by kernel_rfl
theorem wpre (os : Os) (H : Type) (enc : TypeId × Value → H) : Rows.depsClosureSpec.preB enc Tryz.checked.prog Tryz.f3 [] false (w0 os).memory nilArgs 8 = true := by kernel_rfl
theorem wsz (os : Os) (H : Type) (enc : TypeId × Value → H) : Rows.depsClosureSpec.sizedB enc Tryz.checked.prog Tryz.f3 false (w0 os).memory nilArgs 8 = true := by kernel_rfl
end Go.Proofs.YthbmnacleneflaaGreatDoor
