/-
  No function of the program of jalousielaw25.DepsClosure starts a goroutine: what the card's last fact asks.
-/
import Derived.Test.YthbmnacleneflaaGreatDoorRows
import GoSem.ClaimSeven
import Derived.KernelRfl
import Derived.Test.YthbmnacleneflaaGreatDoorP
import Derived.Test.YthbmnacleneflaaGreatDoorCards
import Derived.SevenTiedAt
set_option linter.unusedVariables false
namespace Go.Proofs.YthbmnacleneflaaGreatDoor
open Go
theorem noneGoes : Tryz.prog.funcs.toList.any Func.goes = false := by kernel_rfl
theorem fn4 : Tryz.prog.funcNamed "jalousie/jalousielaw25.DepsClosure" = some 3 := by kernel_rfl
theorem noneGoes' : Tryz.prog.funcs.any Func.goes = false := by
  rw [← Array.any_toList]
  exact noneGoes
theorem noGoAt (g : FuncId) : (Tryz.prog.funcs[g]?).any Func.goes = false := by
  cases h : Tryz.prog.funcs[g]? with
  | none => rfl
  | some fn =>
    have hm : fn ∈ Tryz.prog.funcs.toList := by
      rw [← Array.getElem?_toList] at h
      exact List.mem_of_getElem? h
    have := List.any_eq_false.1 noneGoes fn hm
    simpa using this
theorem goes4 : Tryz.prog.goes 3 = false := by
  unfold Program.goes
  rw [noneGoes', Bool.and_false, Bool.or_false, List.any_eq_false]
  intro g _
  rw [noGoAt g]
  exact Bool.false_ne_true
theorem goesF : false = Rows.depsClosureRow.goesBy Tryz.prog := by
  show false = (Program.goesFrom Tryz.prog "jalousie/jalousielaw25.DepsClosure" || false)
  unfold Program.goesFrom
  rw [fn4, Option.any_some, goes4]
  rfl
end Go.Proofs.YthbmnacleneflaaGreatDoor
/-
  jalousielaw25.DepsClosure returns true: the tied card. No condition beside the card's own.
-/
set_option linter.unusedVariables false
namespace Go.Proofs.YthbmnacleneflaaGreatDoor
open Go
theorem stand22 : Tryz.prog.wantsStandIn 22 = false := by kernel_rfl
theorem stand23 : Tryz.prog.wantsStandIn 23 = false := by kernel_rfl
theorem wfText : Rows.depsClosureRow.wfByText (OpenSpec.ofChange Rows.depsClosureSpec) = true := by kernel_rfl
theorem proved : Rows.DepsClosureCardSaid :=
  Claim7.holds_tied_plain_at .later [] [.pinned, .data, .data, .listed, .data] true (true, "aa62f28d533ee9c0228230d760d5aa58d1804cb3271cf78b0cc06c8db27036e5") true
    row (fun _ h => by cases h) wfText (fun _ h => by cases h) rowTie rfl ⟨rfl, rfl⟩ (by kernel_rfl) rfl
    (fun f fn hf hfn => by
      obtain rfl : f = 3 := Option.some.inj (fn4.symm.trans hf) |>.symm
      obtain rfl : fn = Tryz.f3 := (Option.some.inj (Tryz.func3.symm.trans hfn)).symm
      exact ⟨by kernel_rfl, fun j t ht => by
        rw [Tryz.params3] at ht
        rcases j with _ | _ | j
        · obtain rfl : 22 = t := by simpa using ht
          exact stand22
        · obtain rfl : 23 = t := by simpa using ht
          exact stand23
        · simp at ht⟩)
    goesF
#print axioms proved
end Go.Proofs.YthbmnacleneflaaGreatDoor
