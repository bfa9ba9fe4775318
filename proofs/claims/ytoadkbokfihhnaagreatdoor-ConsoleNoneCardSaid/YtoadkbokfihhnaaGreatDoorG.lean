/-
  No function of the program of jalousielaw29.ConsoleNone starts a goroutine: what the card's last fact asks.
-/
import Derived.Test.YtoadkbokfihhnaaGreatDoorRows
import GoSem.ClaimSeven
import Derived.KernelRfl
set_option linter.unusedVariables false
namespace Go.Proofs.YtoadkbokfihhnaaGreatDoor
open Go
theorem noneGoes : Tryz.prog.funcs.toList.any Func.goes = false := by kernel_rfl
theorem fn3 : Tryz.prog.funcNamed "jalousie/jalousielaw29.ConsoleNone" = some 3 := by kernel_rfl
theorem noneGoes' : Tryz.prog.funcs.any Func.goes = false := by
  rw [← Array.any_toList]
  exact noneGoes
theorem noGoAt (g : FuncId) : (Tryz.prog.funcs[g]?).any Func.goes = false := by
  cases h : Tryz.prog.funcs[g]? with
  | none => rfl
  | some fn =>
    have hm : fn ∈ Tryz.prog.funcs.toList := by
      rw [← Array.getElem?_toList] at h
      exact List.mem_of_getElem? h
    have := List.any_eq_false.1 noneGoes fn hm
    simpa using this
theorem goes3 : Tryz.prog.goes 3 = false := by
  unfold Program.goes
  rw [noneGoes', Bool.and_false, Bool.or_false, List.any_eq_false]
  intro g _
  rw [noGoAt g]
  exact Bool.false_ne_true
theorem goesF : false = Rows.consoleNoneRow.goesBy Tryz.prog := by
  show false = (Program.goesFrom Tryz.prog "jalousie/jalousielaw29.ConsoleNone" || false)
  unfold Program.goesFrom
  rw [fn3, Option.any_some, goes3]
  rfl
end Go.Proofs.YtoadkbokfihhnaaGreatDoor
