/-
 No function of the program of jalousielaw27.ScriptSpaces starts a goroutine: what the card's last fact asks.
-/
import Derived.Test.YtihlneenajlhoaaGreatDoorRows
import GoSem.ClaimSeven
import Derived.KernelRfl
import Derived.Test.YtihlneenajlhoaaGreatDoorP
import Derived.Test.YtihlneenajlhoaaGreatDoorCards
import Derived.SevenTiedAt
set_option linter.unusedVariables false
namespace Go.Proofs.YtihlneenajlhoaaGreatDoor
open Go
theorem noneGoes:Tryz.prog.funcs.toList.any Func.goes=false:=by kernel_rfl
theorem fnF:Tryz.prog.funcNamed "jalousie/jalousielaw27.ScriptSpaces" = some 6:=by kernel_rfl
theorem noneGoes':Tryz.prog.funcs.any Func.goes=false:=by
 rw [←Array.any_toList]
 exact noneGoes
theorem noGoAt (g:FuncId):(Tryz.prog.funcs[g]?).any Func.goes=false:=by
 cases h:Tryz.prog.funcs[g]? with
 | none=>rfl
 | some fn =>
  have hm:fn∈Tryz.prog.funcs.toList:=by
   rw [←Array.getElem?_toList] at h
   exact List.mem_of_getElem? h
  have:=List.any_eq_false.1 noneGoes fn hm
  simpa using this
theorem goesP:Tryz.prog.goes 6=false:=by
 unfold Program.goes
 rw [noneGoes',Bool.and_false,Bool.or_false,List.any_eq_false]
 intro g _
 rw [noGoAt g]
 exact Bool.false_ne_true
theorem goesF:false=Rows.scriptSpacesUptoRow.goesBy Tryz.prog:=by
 show false=(Program.goesFrom Tryz.prog "jalousie/jalousielaw27.ScriptSpaces" || false)
 unfold Program.goesFrom
 rw [fnF,Option.any_some,goesP]
 rfl
theorem stand35:Tryz.prog.wantsStandIn 35=false:=by kernel_rfl
theorem stand3:Tryz.prog.wantsStandIn 3=false:=by kernel_rfl
theorem wfText:Rows.scriptSpacesUptoRow.wfByText (Rows.OpenSpec.upto Rows.scriptSpacesSpec)=true:=by kernel_rfl
theorem proved:Rows.ScriptSpacesUptoCardSaid :=
 Claim7.holds_tied_plain_at .later [] [.data,.data,.data,.data,.listed,.pinned,.data] true (true, "ac2b628dc0289c73ecba6558592f064be5ad063d83ceedacd9fa020fb94fc565") true
  row (fun _ h=>by cases h) wfText (fun _ h=>by cases h) rowTie rfl ⟨rfl,rfl⟩ (by kernel_rfl) rfl
  (fun f fn hf hfn=>by
   obtain rfl:f=6:=Option.some.inj (fnF.symm.trans hf) |>.symm
   obtain rfl:fn=Tryz.f6:=(Option.some.inj (Tryz.func6.symm.trans hfn)).symm
   exact ⟨by kernel_rfl,fun j t ht=>by
    rw [Tryz.params6] at ht
    rcases j with _ | _ | j
    ·obtain rfl:35=t:=by simpa using ht
     exact stand35
    ·obtain rfl:3=t:=by simpa using ht
     exact stand3
    ·simp at ht⟩)
  goesF
#print axioms proved
end Go.Proofs.YtihlneenajlhoaaGreatDoor
