/-
 No function of the program of jalousielaw27.ScriptBack starts a goroutine: what the card's last fact asks.
-/
import Derived.Test.YtihlneenajlhoaaGreatDoorRows
import GoSem.ClaimSeven
import Derived.KernelRfl
import Derived.Test.YtihlneenajlhoaaGreatDoorP
import Derived.Test.YtihlneenajlhoaaGreatDoorCards
import Derived.SevenTiedAt
set_option linter.unusedVariables false
namespace Go.Proofs.YtihlneenajlhoaaGreatDoor
open Go
theorem XU:Tryz.prog.funcs.toList.any Func.goes=false:=by kernel_rfl
theorem fnF:Tryz.prog.funcNamed "jalousie/jalousielaw27.ScriptBack" = some 8:=by kernel_rfl
theorem lY:Tryz.prog.funcs.any Func.goes=false:=by
 rw [←Array.any_toList]
 exact XU
theorem lZ (g:FuncId):(Tryz.prog.funcs[g]?).any Func.goes=false:=by
 cases h:Tryz.prog.funcs[g]? with
 | none=>rfl
 | some fn =>
  have hm:fn∈Tryz.prog.funcs.toList:=by
   rw [←Array.getElem?_toList] at h
   exact List.mem_of_getElem? h
  have:=List.any_eq_false.1 XU fn hm
  simpa using this
theorem mD:Tryz.prog.goes 8=false:=by
 unfold Program.goes
 rw [lY,Bool.and_false,Bool.or_false,List.any_eq_false]
 intro g _
 rw [lZ g]
 exact Bool.false_ne_true
theorem mF:false=Rows.scriptBackUptoRow.goesBy Tryz.prog:=by
 show false=(Program.goesFrom Tryz.prog "jalousie/jalousielaw27.ScriptBack" || false)
 unfold Program.goesFrom
 rw [fnF,Option.any_some,mD]
 rfl
theorem mG:Tryz.prog.wantsStandIn 35=false:=by kernel_rfl
theorem mJ:Rows.scriptBackUptoRow.wfByText (Rows.OpenSpec.upto Rows.scriptBackSpec)=true:=by kernel_rfl
theorem proved:Rows.ScriptBackUptoCardSaid :=
 Claim7.holds_tied_plain_at .later [] [.data,.data,.data,.data,.listed,.pinned,.data] true (true, "ac2b628dc0289c73ecba6558592f064be5ad063d83ceedacd9fa020fb94fc565") true
  row (fun _ h=>by cases h) mJ (fun _ h=>by cases h) mM rfl ⟨rfl,rfl⟩ (by kernel_rfl) rfl
  (fun f fn hf hfn=>by
   obtain rfl:f=8:=Option.some.inj (fnF.symm.trans hf) |>.symm
   obtain rfl:fn=Tryz.f8:=(Option.some.inj (Tryz.func8.symm.trans hfn)).symm
   exact ⟨by kernel_rfl,fun j t ht=>by
    rw [Tryz.params8] at ht
    rcases j with _ | j
    ·obtain rfl:35=t:=by simpa using ht
     exact mG
    ·simp at ht⟩)
  mF
#print axioms proved
end Go.Proofs.YtihlneenajlhoaaGreatDoor
