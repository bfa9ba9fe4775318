/-
  Closed facts on the start at which the row of jalousielaw25.DepsTree is met, by the kernel: W3.
-/
import Derived.Test.YthbmnacleneflaaGreatDoorL
import Derived.KernelRfl
set_option linter.unusedVariables false
namespace Go.Proofs.YthbmnacleneflaaGreatDoor
open Go
theorem wok (os : Os) : Input.okWideB Tryz.checked.prog (w0 os) 4 ⟨#[], nilArgs, []⟩ = true := by kernel_rfl
theorem wpre (os : Os) (H : Type) (enc : TypeId × Value → H) : Rows.depsTreeSpec.preB enc Tryz.checked.prog Tryz.f4 [] false (w0 os).memory nilArgs 8 = true := by kernel_rfl
theorem wsz (os : Os) (H : Type) (enc : TypeId × Value → H) : Rows.depsTreeSpec.sizedB enc Tryz.checked.prog Tryz.f4 false (w0 os).memory nilArgs 8 = true := by kernel_rfl
end Go.Proofs.YthbmnacleneflaaGreatDoor
