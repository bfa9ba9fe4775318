/-
 No function of the program of jalousielaw27.ScriptParses starts a goroutine: what the card's last fact asks.
-/
import Derived.Test.YtihlneenajlhoaaGreatDoorRows
import GoSem.ClaimSeven
import Derived.KernelRfl
import Derived.Test.YtihlneenajlhoaaGreatDoorP
import Derived.Test.YtihlneenajlhoaaGreatDoorCards
import Derived.SevenTiedAt
set_option linter.unusedVariables false
namespace Go.Proofs.YtihlneenajlhoaaGreatDoor
open Go
theorem noneGoes:Tryz.prog.funcs.toList.any Func.goes=false:=by kernel_rfl
theorem fnF:Tryz.prog.funcNamed "jalousie/jalousielaw27.ScriptParses" = some 4:=by kernel_rfl
theorem noneGoes':Tryz.prog.funcs.any Func.goes=false:=by
 rw [←Array.any_toList]
 exact noneGoes
theorem noGoAt (g:FuncId):(Tryz.prog.funcs[g]?).any Func.goes=false:=by
 cases h:Tryz.prog.funcs[g]? with
 | none=>rfl
 | some fn =>
  have hm:fn∈Tryz.prog.funcs.toList:=by
   rw [←Array.getElem?_toList] at h
   exact List.mem_of_getElem? h
  have:=List.any_eq_false.1 noneGoes fn hm
  simpa using this
theorem goesP:Tryz.prog.goes 4=false:=by
 unfold Program.goes
 rw [noneGoes',Bool.and_false,Bool.or_false,List.any_eq_false]
 intro g _
 rw [noGoAt g]
 exact Bool.false_ne_true
theorem goesF:false=Rows.scriptParsesUptoRow.goesBy Tryz.prog:=by
 show false=(Program.goesFrom Tryz.prog "jalousie/jalousielaw27.ScriptParses" || false)
 unfold Program.goesFrom
 rw [fnF,Option.any_some,goesP]
 rfl
theorem stand22:Tryz.prog.wantsStandIn 22=false:=by kernel_rfl
theorem wfText:Rows.scriptParsesUptoRow.wfByText (Rows.OpenSpec.upto Rows.scriptParsesSpec)=true:=by kernel_rfl
theorem proved:Rows.ScriptParsesUptoCardSaid :=
 Claim7.holds_tied_plain_at .later [] [.pinned,.data,.data,.listed,.data,.data,.data] true (true, "ac2b628dc0289c73ecba6558592f064be5ad063d83ceedacd9fa020fb94fc565") true
  row (fun _ h=>by cases h) wfText (fun _ h=>by cases h) rowTie rfl ⟨rfl,rfl⟩ (by kernel_rfl) rfl
  (fun f fn hf hfn=>by
   obtain rfl:f=4:=Option.some.inj (fnF.symm.trans hf) |>.symm
   obtain rfl:fn=Tryz.f4:=(Option.some.inj (Tryz.func4.symm.trans hfn)).symm
   exact ⟨by kernel_rfl,fun j t ht=>by
    rw [Tryz.params4] at ht
    rcases j with _ | j
    ·obtain rfl:22=t:=by simpa using ht
     exact stand22
    ·simp at ht⟩)
  goesF
#print axioms proved
end Go.Proofs.YtihlneenajlhoaaGreatDoor
